/-
  No cell of these rows narrows 'for every input' (looked for: loops, veiled, ifaces, maps, wideKeys, modest, calm, conditions, laid).
  DERIVED. THE GIVEN ROWS OF THIS SEAT. 11 by the template 'for every input the law returns true; each argument reads behind the call as it read before'; 0 by the template 'total and deterministic' (their statements: YtfbipgidlecmkaaTotals.lean).
  GIVEN WITH THE SEED: the statements are not yours to turn. If you find one false, say at which input.
  Laid BY PROGRAM, IN A SANDBOX (cutbox-rows.mjs): the forced cells as the released guide's own fill.sh prints them over the translation a38ac5ad0686e044… (all of the seat's roots in one cut). By AI agents, Wed Nov 11 2026. No macro, syntax, notation, axiom, sorry.
-/
import Derived.Test.YtfbipgidlecmkaaChecked
import GoSem.Claim
import GoSem.ClaimJoined
import GoSem.ClaimMapViews
import Derived.JoinedTies
import Derived.KernelRfl
namespace Go.Proofs.Ytfbipgidlecmkaa
/- THE CELL 'sum', in the pinned program and in every row, IS THE sha256 OF THE DUMP (.gsa) THAT YtfbipgidlecmkaaProg.lean LOADS. Nothing in Lean hashes anything: it is a label: what it is worth is what the hold of that sum in a sandbox is worth. -/
noncomputable def Try.pinned : Pinned := { name := "ytfbipgidlecmkaa", sum := "a38ac5ad0686e044e1dfd72b0b292817b3ae8d37ab21604f3a4303122f965bde", checked := Try.checked }
namespace Rows
def none {H : Type} : Left H := { results := [], args := [] }

/-- 'heartwoodlaw01.ShaRounds': WHATEVER THE INPUT: true; the input reads as it did. -/
def shaRoundsSpec : ChangeSpec := { name := "shaRounds", fn := fun _ => fun
  | [d1, d2, d3] => { results := [.lit (.bool true)], args := [d1, d2, d3] }
  | _ => none }
def shaRoundsRow : OpenClaim := { program := "ytfbipgidlecmkaa", sum := "a38ac5ad0686e044e1dfd72b0b292817b3ae8d37ab21604f3a4303122f965bde", func := "heartwood/heartwoodlaw01.ShaRounds", spec := "shaRounds", apart := false }
def ShaRoundsSaid : Prop := shaRoundsRow.holds Try.pinned (OpenSpec.ofChange shaRoundsSpec)

/-- ITS FALSE NEIGHBOUR: 'it returns false'. Refute it at one input. -/
def shaRoundsWrong : ChangeSpec := { name := "shaRounds", fn := fun _ => fun
  | [d1, d2, d3] => { results := [.lit (.bool false)], args := [d1, d2, d3] }
  | _ => none }
def ShaRoundsWrongFalsely : Prop := shaRoundsRow.holds Try.pinned (OpenSpec.ofChange shaRoundsWrong)

/-- 'heartwoodlaw01.ShaTails': WHATEVER THE INPUT: true; the input reads as it did. -/
def shaTailsSpec : ChangeSpec := { name := "shaTails", fn := fun _ => fun
  | [d] => { results := [.lit (.bool true)], args := [d] }
  | _ => none }
def shaTailsRow : OpenClaim := { program := "ytfbipgidlecmkaa", sum := "a38ac5ad0686e044e1dfd72b0b292817b3ae8d37ab21604f3a4303122f965bde", func := "heartwood/heartwoodlaw01.ShaTails", spec := "shaTails", apart := false }
def ShaTailsSaid : Prop := shaTailsRow.holds Try.pinned (OpenSpec.ofChange shaTailsSpec)

/-- ITS FALSE NEIGHBOUR: 'it returns false'. Refute it at one input. -/
def shaTailsWrong : ChangeSpec := { name := "shaTails", fn := fun _ => fun
  | [d] => { results := [.lit (.bool false)], args := [d] }
  | _ => none }
def ShaTailsWrongFalsely : Prop := shaTailsRow.holds Try.pinned (OpenSpec.ofChange shaTailsWrong)

/-- 'heartwoodlaw02.CoderNumbers': WHATEVER THE INPUT: true; the input reads as it did. -/
def coderNumbersSpec : ChangeSpec := { name := "coderNumbers", fn := fun _ => fun
  | [d] => { results := [.lit (.bool true)], args := [d] }
  | _ => none }
def coderNumbersRow : OpenClaim := { program := "ytfbipgidlecmkaa", sum := "a38ac5ad0686e044e1dfd72b0b292817b3ae8d37ab21604f3a4303122f965bde", func := "heartwood/heartwoodlaw02.CoderNumbers", spec := "coderNumbers", apart := false }
def CoderNumbersSaid : Prop := coderNumbersRow.holds Try.pinned (OpenSpec.ofChange coderNumbersSpec)

/-- ITS FALSE NEIGHBOUR: 'it returns false'. Refute it at one input. -/
def coderNumbersWrong : ChangeSpec := { name := "coderNumbers", fn := fun _ => fun
  | [d] => { results := [.lit (.bool false)], args := [d] }
  | _ => none }
def CoderNumbersWrongFalsely : Prop := coderNumbersRow.holds Try.pinned (OpenSpec.ofChange coderNumbersWrong)

/-- 'heartwoodlaw02.CoderBytes': WHATEVER THE INPUT: true; the input reads as it did. -/
def coderBytesSpec : ChangeSpec := { name := "coderBytes", fn := fun _ => fun
  | [d] => { results := [.lit (.bool true)], args := [d] }
  | _ => none }
def coderBytesRow : OpenClaim := { program := "ytfbipgidlecmkaa", sum := "a38ac5ad0686e044e1dfd72b0b292817b3ae8d37ab21604f3a4303122f965bde", func := "heartwood/heartwoodlaw02.CoderBytes", spec := "coderBytes", apart := false }
def CoderBytesSaid : Prop := coderBytesRow.holds Try.pinned (OpenSpec.ofChange coderBytesSpec)

/-- ITS FALSE NEIGHBOUR: 'it returns false'. Refute it at one input. -/
def coderBytesWrong : ChangeSpec := { name := "coderBytes", fn := fun _ => fun
  | [d] => { results := [.lit (.bool false)], args := [d] }
  | _ => none }
def CoderBytesWrongFalsely : Prop := coderBytesRow.holds Try.pinned (OpenSpec.ofChange coderBytesWrong)

/-- 'heartwoodlaw01.ShaWords': WHATEVER THE INPUT: true; the input reads as it did. -/
def shaWordsSpec : ChangeSpec := { name := "shaWords", fn := fun _ => fun
  | [d] => { results := [.lit (.bool true)], args := [d] }
  | _ => none }
def shaWordsRow : OpenClaim := { program := "ytfbipgidlecmkaa", sum := "a38ac5ad0686e044e1dfd72b0b292817b3ae8d37ab21604f3a4303122f965bde", func := "heartwood/heartwoodlaw01.ShaWords", spec := "shaWords", apart := false }
def ShaWordsSaid : Prop := shaWordsRow.holds Try.pinned (OpenSpec.ofChange shaWordsSpec)

/-- ITS FALSE NEIGHBOUR: 'it returns false'. Refute it at one input. -/
def shaWordsWrong : ChangeSpec := { name := "shaWords", fn := fun _ => fun
  | [d] => { results := [.lit (.bool false)], args := [d] }
  | _ => none }
def ShaWordsWrongFalsely : Prop := shaWordsRow.holds Try.pinned (OpenSpec.ofChange shaWordsWrong)

/-- 'heartwoodlaw02.CoderApart': WHATEVER THE INPUT: true; the input reads as it did. -/
def coderApartSpec : ChangeSpec := { name := "coderApart", fn := fun _ => fun
  | [d1, d2, d3] => { results := [.lit (.bool true)], args := [d1, d2, d3] }
  | _ => none }
def coderApartRow : OpenClaim := { program := "ytfbipgidlecmkaa", sum := "a38ac5ad0686e044e1dfd72b0b292817b3ae8d37ab21604f3a4303122f965bde", func := "heartwood/heartwoodlaw02.CoderApart", spec := "coderApart", apart := false }
def CoderApartSaid : Prop := coderApartRow.holds Try.pinned (OpenSpec.ofChange coderApartSpec)

/-- ITS FALSE NEIGHBOUR: 'it returns false'. Refute it at one input. -/
def coderApartWrong : ChangeSpec := { name := "coderApart", fn := fun _ => fun
  | [d1, d2, d3] => { results := [.lit (.bool false)], args := [d1, d2, d3] }
  | _ => none }
def CoderApartWrongFalsely : Prop := coderApartRow.holds Try.pinned (OpenSpec.ofChange coderApartWrong)

/-- 'heartwoodlaw03.DigestPreimages': WHATEVER THE INPUT: true; the input reads as it did. -/
def digestPreimagesSpec : ChangeSpec := { name := "digestPreimages", fn := fun _ => fun
  | [d1, d2, d3, d4] => { results := [.lit (.bool true)], args := [d1, d2, d3, d4] }
  | _ => none }
def digestPreimagesRow : OpenClaim := { program := "ytfbipgidlecmkaa", sum := "a38ac5ad0686e044e1dfd72b0b292817b3ae8d37ab21604f3a4303122f965bde", func := "heartwood/heartwoodlaw03.DigestPreimages", spec := "digestPreimages", apart := false }
def DigestPreimagesSaid : Prop := digestPreimagesRow.holds Try.pinned (OpenSpec.ofChange digestPreimagesSpec)

/-- ITS FALSE NEIGHBOUR: 'it returns false'. Refute it at one input. -/
def digestPreimagesWrong : ChangeSpec := { name := "digestPreimages", fn := fun _ => fun
  | [d1, d2, d3, d4] => { results := [.lit (.bool false)], args := [d1, d2, d3, d4] }
  | _ => none }
def DigestPreimagesWrongFalsely : Prop := digestPreimagesRow.holds Try.pinned (OpenSpec.ofChange digestPreimagesWrong)

/-- 'heartwoodlaw03.DigestApart': WHATEVER THE INPUT: true; the input reads as it did. -/
def digestApartSpec : ChangeSpec := { name := "digestApart", fn := fun _ => fun
  | [d1, d2, d3, d4, d5] => { results := [.lit (.bool true)], args := [d1, d2, d3, d4, d5] }
  | _ => none }
def digestApartRow : OpenClaim := { program := "ytfbipgidlecmkaa", sum := "a38ac5ad0686e044e1dfd72b0b292817b3ae8d37ab21604f3a4303122f965bde", func := "heartwood/heartwoodlaw03.DigestApart", spec := "digestApart", apart := false }
def DigestApartSaid : Prop := digestApartRow.holds Try.pinned (OpenSpec.ofChange digestApartSpec)

/-- ITS FALSE NEIGHBOUR: 'it returns false'. Refute it at one input. -/
def digestApartWrong : ChangeSpec := { name := "digestApart", fn := fun _ => fun
  | [d1, d2, d3, d4, d5] => { results := [.lit (.bool false)], args := [d1, d2, d3, d4, d5] }
  | _ => none }
def DigestApartWrongFalsely : Prop := digestApartRow.holds Try.pinned (OpenSpec.ofChange digestApartWrong)

/-- 'heartwoodlaw02.CoderStays': WHATEVER THE INPUT: true; the input reads as it did. -/
def coderStaysSpec : ChangeSpec := { name := "coderStays", fn := fun _ => fun
  | [d] => { results := [.lit (.bool true)], args := [d] }
  | _ => none }
def coderStaysRow : OpenClaim := { program := "ytfbipgidlecmkaa", sum := "a38ac5ad0686e044e1dfd72b0b292817b3ae8d37ab21604f3a4303122f965bde", func := "heartwood/heartwoodlaw02.CoderStays", spec := "coderStays", apart := false }
def CoderStaysSaid : Prop := coderStaysRow.holds Try.pinned (OpenSpec.ofChange coderStaysSpec)

/-- ITS FALSE NEIGHBOUR: 'it returns false'. Refute it at one input. -/
def coderStaysWrong : ChangeSpec := { name := "coderStays", fn := fun _ => fun
  | [d] => { results := [.lit (.bool false)], args := [d] }
  | _ => none }
def CoderStaysWrongFalsely : Prop := coderStaysRow.holds Try.pinned (OpenSpec.ofChange coderStaysWrong)

/-- 'heartwoodlaw02.CoderReads': WHATEVER THE INPUT: true; the input reads as it did. -/
def coderReadsSpec : ChangeSpec := { name := "coderReads", fn := fun _ => fun
  | [d1, d2] => { results := [.lit (.bool true)], args := [d1, d2] }
  | _ => none }
def coderReadsRow : OpenClaim := { program := "ytfbipgidlecmkaa", sum := "a38ac5ad0686e044e1dfd72b0b292817b3ae8d37ab21604f3a4303122f965bde", func := "heartwood/heartwoodlaw02.CoderReads", spec := "coderReads", apart := false }
def CoderReadsSaid : Prop := coderReadsRow.holds Try.pinned (OpenSpec.ofChange coderReadsSpec)

/-- ITS FALSE NEIGHBOUR: 'it returns false'. Refute it at one input. -/
def coderReadsWrong : ChangeSpec := { name := "coderReads", fn := fun _ => fun
  | [d1, d2] => { results := [.lit (.bool false)], args := [d1, d2] }
  | _ => none }
def CoderReadsWrongFalsely : Prop := coderReadsRow.holds Try.pinned (OpenSpec.ofChange coderReadsWrong)

/-- 'heartwoodlaw02.CoderBack': WHATEVER THE INPUT: true; the input reads as it did. -/
def coderBackSpec : ChangeSpec := { name := "coderBack", fn := fun _ => fun
  | [d1, d2] => { results := [.lit (.bool true)], args := [d1, d2] }
  | _ => none }
def coderBackRow : OpenClaim := { program := "ytfbipgidlecmkaa", sum := "a38ac5ad0686e044e1dfd72b0b292817b3ae8d37ab21604f3a4303122f965bde", func := "heartwood/heartwoodlaw02.CoderBack", spec := "coderBack", apart := false }
def CoderBackSaid : Prop := coderBackRow.holds Try.pinned (OpenSpec.ofChange coderBackSpec)

/-- ITS FALSE NEIGHBOUR: 'it returns false'. Refute it at one input. -/
def coderBackWrong : ChangeSpec := { name := "coderBack", fn := fun _ => fun
  | [d1, d2] => { results := [.lit (.bool false)], args := [d1, d2] }
  | _ => none }
def CoderBackWrongFalsely : Prop := coderBackRow.holds Try.pinned (OpenSpec.ofChange coderBackWrong)

/- THE SECOND FORM. 'bulk': how many values and letters a reading holds, each counted each time it is reached (what is shared counts as often as it is met; a slice's spare places count too). A statement '..UptoSaid' is the law's where the arguments, and the package variables that the reading takes, are together of bulk at most 1048576: NARROWER than '..Said'. Prove '..Said' where nothing that the law and all that it calls make is longer than what came in: it says more and counts as full. Else prove '..UptoSaid'. A law counts once. -/
mutual
def uptoBulk {H : Type} : DataW H → Nat
  | .lit (.string bytes) => bytes.length + 1
  | .lit _ => 1
  | .nil => 1
  | .ptr d => uptoBulk d + 1
  | .slice elems spare => uptoBulkAll elems + uptoBulkAll spare + 1
  | .agg parts => uptoBulkAll parts + 1
  | .iface _ d => uptoBulk d + 1
  | .map entries => uptoBulkEntries entries + 1
  | .held _ => 1
def uptoBulkAll {H : Type} : List (DataW H) → Nat
  | [] => 0
  | d :: r => uptoBulk d + uptoBulkAll r
def uptoBulkEntries {H : Type} : List (Lit × DataW H) → Nat
  | [] => 0
  | x :: r => uptoBulkEntry x + uptoBulkEntries r
def uptoBulkEntry {H : Type} : Lit × DataW H → Nat
  | (.string bytes, d) => bytes.length + uptoBulk d + 1
  | (_, d) => uptoBulk d + 1
 end
def uptoSmall : (H : Type) → List (DataW H) → Bool := fun _ ds => decide (uptoBulkAll ds ≤ 1048576)
def OpenSpec.upto (s : _root_.Go.ChangeSpec) : _root_.Go.OpenSpec := { _root_.Go.OpenSpec.ofChange s with cond := some uptoSmall }

/-- 'heartwoodlaw01.ShaRounds', WHERE WHAT IT READS IS OF BULK AT MOST 1048576: true; the input reads as it did. -/
def shaRoundsUptoRow : OpenClaim := { program := "ytfbipgidlecmkaa", sum := "a38ac5ad0686e044e1dfd72b0b292817b3ae8d37ab21604f3a4303122f965bde", func := "heartwood/heartwoodlaw01.ShaRounds", spec := "shaRounds", apart := false, narrowed := true }
def ShaRoundsUptoSaid : Prop := shaRoundsUptoRow.holds Try.pinned (OpenSpec.upto shaRoundsSpec)

/-- 'heartwoodlaw01.ShaTails', WHERE WHAT IT READS IS OF BULK AT MOST 1048576: true; the input reads as it did. -/
def shaTailsUptoRow : OpenClaim := { program := "ytfbipgidlecmkaa", sum := "a38ac5ad0686e044e1dfd72b0b292817b3ae8d37ab21604f3a4303122f965bde", func := "heartwood/heartwoodlaw01.ShaTails", spec := "shaTails", apart := false, narrowed := true }
def ShaTailsUptoSaid : Prop := shaTailsUptoRow.holds Try.pinned (OpenSpec.upto shaTailsSpec)

/-- 'heartwoodlaw02.CoderNumbers', WHERE WHAT IT READS IS OF BULK AT MOST 1048576: true; the input reads as it did. -/
def coderNumbersUptoRow : OpenClaim := { program := "ytfbipgidlecmkaa", sum := "a38ac5ad0686e044e1dfd72b0b292817b3ae8d37ab21604f3a4303122f965bde", func := "heartwood/heartwoodlaw02.CoderNumbers", spec := "coderNumbers", apart := false, narrowed := true }
def CoderNumbersUptoSaid : Prop := coderNumbersUptoRow.holds Try.pinned (OpenSpec.upto coderNumbersSpec)

/-- 'heartwoodlaw02.CoderBytes', WHERE WHAT IT READS IS OF BULK AT MOST 1048576: true; the input reads as it did. -/
def coderBytesUptoRow : OpenClaim := { program := "ytfbipgidlecmkaa", sum := "a38ac5ad0686e044e1dfd72b0b292817b3ae8d37ab21604f3a4303122f965bde", func := "heartwood/heartwoodlaw02.CoderBytes", spec := "coderBytes", apart := false, narrowed := true }
def CoderBytesUptoSaid : Prop := coderBytesUptoRow.holds Try.pinned (OpenSpec.upto coderBytesSpec)

/-- 'heartwoodlaw01.ShaWords', WHERE WHAT IT READS IS OF BULK AT MOST 1048576: true; the input reads as it did. -/
def shaWordsUptoRow : OpenClaim := { program := "ytfbipgidlecmkaa", sum := "a38ac5ad0686e044e1dfd72b0b292817b3ae8d37ab21604f3a4303122f965bde", func := "heartwood/heartwoodlaw01.ShaWords", spec := "shaWords", apart := false, narrowed := true }
def ShaWordsUptoSaid : Prop := shaWordsUptoRow.holds Try.pinned (OpenSpec.upto shaWordsSpec)

/-- 'heartwoodlaw02.CoderApart', WHERE WHAT IT READS IS OF BULK AT MOST 1048576: true; the input reads as it did. -/
def coderApartUptoRow : OpenClaim := { program := "ytfbipgidlecmkaa", sum := "a38ac5ad0686e044e1dfd72b0b292817b3ae8d37ab21604f3a4303122f965bde", func := "heartwood/heartwoodlaw02.CoderApart", spec := "coderApart", apart := false, narrowed := true }
def CoderApartUptoSaid : Prop := coderApartUptoRow.holds Try.pinned (OpenSpec.upto coderApartSpec)

/-- 'heartwoodlaw03.DigestPreimages', WHERE WHAT IT READS IS OF BULK AT MOST 1048576: true; the input reads as it did. -/
def digestPreimagesUptoRow : OpenClaim := { program := "ytfbipgidlecmkaa", sum := "a38ac5ad0686e044e1dfd72b0b292817b3ae8d37ab21604f3a4303122f965bde", func := "heartwood/heartwoodlaw03.DigestPreimages", spec := "digestPreimages", apart := false, narrowed := true }
def DigestPreimagesUptoSaid : Prop := digestPreimagesUptoRow.holds Try.pinned (OpenSpec.upto digestPreimagesSpec)

/-- 'heartwoodlaw03.DigestApart', WHERE WHAT IT READS IS OF BULK AT MOST 1048576: true; the input reads as it did. -/
def digestApartUptoRow : OpenClaim := { program := "ytfbipgidlecmkaa", sum := "a38ac5ad0686e044e1dfd72b0b292817b3ae8d37ab21604f3a4303122f965bde", func := "heartwood/heartwoodlaw03.DigestApart", spec := "digestApart", apart := false, narrowed := true }
def DigestApartUptoSaid : Prop := digestApartUptoRow.holds Try.pinned (OpenSpec.upto digestApartSpec)

/-- 'heartwoodlaw02.CoderStays', WHERE WHAT IT READS IS OF BULK AT MOST 1048576: true; the input reads as it did. -/
def coderStaysUptoRow : OpenClaim := { program := "ytfbipgidlecmkaa", sum := "a38ac5ad0686e044e1dfd72b0b292817b3ae8d37ab21604f3a4303122f965bde", func := "heartwood/heartwoodlaw02.CoderStays", spec := "coderStays", apart := false, narrowed := true }
def CoderStaysUptoSaid : Prop := coderStaysUptoRow.holds Try.pinned (OpenSpec.upto coderStaysSpec)

/-- 'heartwoodlaw02.CoderReads', WHERE WHAT IT READS IS OF BULK AT MOST 1048576: true; the input reads as it did. -/
def coderReadsUptoRow : OpenClaim := { program := "ytfbipgidlecmkaa", sum := "a38ac5ad0686e044e1dfd72b0b292817b3ae8d37ab21604f3a4303122f965bde", func := "heartwood/heartwoodlaw02.CoderReads", spec := "coderReads", apart := false, narrowed := true }
def CoderReadsUptoSaid : Prop := coderReadsUptoRow.holds Try.pinned (OpenSpec.upto coderReadsSpec)

/-- 'heartwoodlaw02.CoderBack', WHERE WHAT IT READS IS OF BULK AT MOST 1048576: true; the input reads as it did. -/
def coderBackUptoRow : OpenClaim := { program := "ytfbipgidlecmkaa", sum := "a38ac5ad0686e044e1dfd72b0b292817b3ae8d37ab21604f3a4303122f965bde", func := "heartwood/heartwoodlaw02.CoderBack", spec := "coderBack", apart := false, narrowed := true }
def CoderBackUptoSaid : Prop := coderBackUptoRow.holds Try.pinned (OpenSpec.upto coderBackSpec)

end Rows
end Go.Proofs.Ytfbipgidlecmkaa
