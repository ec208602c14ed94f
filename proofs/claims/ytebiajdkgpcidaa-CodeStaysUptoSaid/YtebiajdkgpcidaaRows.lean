/-
  NARROWER THAN 'FOR EVERY INPUT', by the rows' own cells (each row's printed sentence says how): ScanRanges: loops · AvlIs: loops · AvlGets: loops · AvlPuts: loops · CodeWrites: loops · CodeBack: loops · CodeStays: loops · AvlDeletes: loops.
  DERIVED. THE GIVEN ROWS OF THIS SEAT. 15 by the template 'for every input the law returns true; each argument reads behind the call as it read before'; 0 by the template 'total and deterministic' (their statements: YtebiajdkgpcidaaTotals.lean).
  GIVEN WITH THE SEED: the statements are not yours to turn. If you find one false, say at which input.
  Laid BY PROGRAM, IN A SANDBOX (cutbox-rows.mjs): the forced cells as the released guide's own fill.sh prints them over the translation 60beef2ca2fe8aac… (all of the seat's roots in one cut). By AI agents, Wed Nov 11 2026. No macro, syntax, notation, axiom, sorry.
-/
import Derived.Test.YtebiajdkgpcidaaChecked
import GoSem.Claim
import GoSem.ClaimJoined
import GoSem.ClaimMapViews
import Derived.JoinedTies
import Derived.KernelRfl
namespace Go.Proofs.Ytebiajdkgpcidaa
/- THE CELL 'sum', in the pinned program and in every row, IS THE sha256 OF THE DUMP (.gsa) THAT YtebiajdkgpcidaaProg.lean LOADS. Nothing in Lean hashes anything: it is a label: what it is worth is what the hold of that sum in a sandbox is worth. -/
noncomputable def Try.pinned : Pinned := { name := "ytebiajdkgpcidaa", sum := "60beef2ca2fe8aace2815c5c18276a6e72aff4ae0eb655ff9583a108a631e9ea", checked := Try.checked }
namespace Rows
def none {H : Type} : Left H := { results := [], args := [] }

/-- 'heartwoodlaw06.ScanIn': WHATEVER THE INPUT: true; the input reads as it did. -/
def scanInSpec : ChangeSpec := { name := "scanIn", fn := fun _ => fun
  | [d1, d2, d3] => { results := [.lit (.bool true)], args := [d1, d2, d3] }
  | _ => none }
def scanInRow : OpenClaim := { program := "ytebiajdkgpcidaa", sum := "60beef2ca2fe8aace2815c5c18276a6e72aff4ae0eb655ff9583a108a631e9ea", func := "heartwood/heartwoodlaw06.ScanIn", spec := "scanIn", inPlace := ["internal/bytealg.Compare"], apart := false }
def ScanInSaid : Prop := scanInRow.holds Try.pinned (OpenSpec.ofChange scanInSpec)

/-- ITS FALSE NEIGHBOUR: 'it returns false'. Refute it at one input. -/
def scanInWrong : ChangeSpec := { name := "scanIn", fn := fun _ => fun
  | [d1, d2, d3] => { results := [.lit (.bool false)], args := [d1, d2, d3] }
  | _ => none }
def ScanInWrongFalsely : Prop := scanInRow.holds Try.pinned (OpenSpec.ofChange scanInWrong)

/-- 'heartwoodlaw06.ScanEmpty': WHATEVER THE INPUT: true; the input reads as it did. -/
def scanEmptySpec : ChangeSpec := { name := "scanEmpty", fn := fun _ => fun
  | [d1, d2, d3, d4, d5] => { results := [.lit (.bool true)], args := [d1, d2, d3, d4, d5] }
  | _ => none }
def scanEmptyRow : OpenClaim := { program := "ytebiajdkgpcidaa", sum := "60beef2ca2fe8aace2815c5c18276a6e72aff4ae0eb655ff9583a108a631e9ea", func := "heartwood/heartwoodlaw06.ScanEmpty", spec := "scanEmpty", inPlace := ["internal/bytealg.Compare"], apart := false }
def ScanEmptySaid : Prop := scanEmptyRow.holds Try.pinned (OpenSpec.ofChange scanEmptySpec)

/-- ITS FALSE NEIGHBOUR: 'it returns false'. Refute it at one input. -/
def scanEmptyWrong : ChangeSpec := { name := "scanEmpty", fn := fun _ => fun
  | [d1, d2, d3, d4, d5] => { results := [.lit (.bool false)], args := [d1, d2, d3, d4, d5] }
  | _ => none }
def ScanEmptyWrongFalsely : Prop := scanEmptyRow.holds Try.pinned (OpenSpec.ofChange scanEmptyWrong)

/-- 'heartwoodlaw06.ScanNone': WHATEVER THE INPUT: true; the input reads as it did. -/
def scanNoneSpec : ChangeSpec := { name := "scanNone", fn := fun _ => fun
  | [d1, d2, d3, d4, d5, d6] => { results := [.lit (.bool true)], args := [d1, d2, d3, d4, d5, d6] }
  | _ => none }
def scanNoneRow : OpenClaim := { program := "ytebiajdkgpcidaa", sum := "60beef2ca2fe8aace2815c5c18276a6e72aff4ae0eb655ff9583a108a631e9ea", func := "heartwood/heartwoodlaw06.ScanNone", spec := "scanNone", inPlace := ["internal/bytealg.Compare"], apart := false }
def ScanNoneSaid : Prop := scanNoneRow.holds Try.pinned (OpenSpec.ofChange scanNoneSpec)

/-- ITS FALSE NEIGHBOUR: 'it returns false'. Refute it at one input. -/
def scanNoneWrong : ChangeSpec := { name := "scanNone", fn := fun _ => fun
  | [d1, d2, d3, d4, d5, d6] => { results := [.lit (.bool false)], args := [d1, d2, d3, d4, d5, d6] }
  | _ => none }
def ScanNoneWrongFalsely : Prop := scanNoneRow.holds Try.pinned (OpenSpec.ofChange scanNoneWrong)

/-- 'heartwoodlaw06.ScanRanges': WHATEVER THE INPUT: true; the input reads as it did. -/
def scanRangesSpec : ChangeSpec := { name := "scanRanges", fn := fun _ => fun
  | [d1, d2] => { results := [.lit (.bool true)], args := [d1, d2] }
  | _ => none }
def scanRangesRow : OpenClaim := { program := "ytebiajdkgpcidaa", sum := "60beef2ca2fe8aace2815c5c18276a6e72aff4ae0eb655ff9583a108a631e9ea", func := "heartwood/heartwoodlaw06.ScanRanges", spec := "scanRanges", inPlace := ["internal/bytealg.Compare"], unfollowed := true, recurses := true, loops := true, apart := false }
def ScanRangesSaid : Prop := scanRangesRow.holds Try.pinned (OpenSpec.ofChange scanRangesSpec)

/-- ITS FALSE NEIGHBOUR: 'it returns false'. Refute it at one input. -/
def scanRangesWrong : ChangeSpec := { name := "scanRanges", fn := fun _ => fun
  | [d1, d2] => { results := [.lit (.bool false)], args := [d1, d2] }
  | _ => none }
def ScanRangesWrongFalsely : Prop := scanRangesRow.holds Try.pinned (OpenSpec.ofChange scanRangesWrong)

/-- 'heartwoodlaw06.ScanStays': WHATEVER THE INPUT: true; the input reads as it did. -/
def scanStaysSpec : ChangeSpec := { name := "scanStays", fn := fun _ => fun
  | [d1, d2] => { results := [.lit (.bool true)], args := [d1, d2] }
  | _ => none }
def scanStaysRow : OpenClaim := { program := "ytebiajdkgpcidaa", sum := "60beef2ca2fe8aace2815c5c18276a6e72aff4ae0eb655ff9583a108a631e9ea", func := "heartwood/heartwoodlaw06.ScanStays", spec := "scanStays", inPlace := ["internal/bytealg.Compare"], unfollowed := true, recurses := true, apart := false }
def ScanStaysSaid : Prop := scanStaysRow.holds Try.pinned (OpenSpec.ofChange scanStaysSpec)

/-- ITS FALSE NEIGHBOUR: 'it returns false'. Refute it at one input. -/
def scanStaysWrong : ChangeSpec := { name := "scanStays", fn := fun _ => fun
  | [d1, d2] => { results := [.lit (.bool false)], args := [d1, d2] }
  | _ => none }
def ScanStaysWrongFalsely : Prop := scanStaysRow.holds Try.pinned (OpenSpec.ofChange scanStaysWrong)

/-- 'heartwoodlaw06.ScanParts': WHATEVER THE INPUT: true; the input reads as it did. -/
def scanPartsSpec : ChangeSpec := { name := "scanParts", fn := fun _ => fun
  | [d1, d2, d3] => { results := [.lit (.bool true)], args := [d1, d2, d3] }
  | _ => none }
def scanPartsRow : OpenClaim := { program := "ytebiajdkgpcidaa", sum := "60beef2ca2fe8aace2815c5c18276a6e72aff4ae0eb655ff9583a108a631e9ea", func := "heartwood/heartwoodlaw06.ScanParts", spec := "scanParts", inPlace := ["internal/bytealg.Compare"], unfollowed := true, recurses := true, apart := false }
def ScanPartsSaid : Prop := scanPartsRow.holds Try.pinned (OpenSpec.ofChange scanPartsSpec)

/-- ITS FALSE NEIGHBOUR: 'it returns false'. Refute it at one input. -/
def scanPartsWrong : ChangeSpec := { name := "scanParts", fn := fun _ => fun
  | [d1, d2, d3] => { results := [.lit (.bool false)], args := [d1, d2, d3] }
  | _ => none }
def ScanPartsWrongFalsely : Prop := scanPartsRow.holds Try.pinned (OpenSpec.ofChange scanPartsWrong)

/-- 'heartwoodlaw05.AvlIs': WHATEVER THE INPUT: true; the input reads as it did. -/
def avlIsSpec : ChangeSpec := { name := "avlIs", fn := fun _ => fun
  | [d] => { results := [.lit (.bool true)], args := [d] }
  | _ => none }
def avlIsRow : OpenClaim := { program := "ytebiajdkgpcidaa", sum := "60beef2ca2fe8aace2815c5c18276a6e72aff4ae0eb655ff9583a108a631e9ea", func := "heartwood/heartwoodlaw05.AvlIs", spec := "avlIs", inPlace := ["internal/bytealg.Compare"], unfollowed := true, recurses := true, loops := true, apart := false }
def AvlIsSaid : Prop := avlIsRow.holds Try.pinned (OpenSpec.ofChange avlIsSpec)

/-- ITS FALSE NEIGHBOUR: 'it returns false'. Refute it at one input. -/
def avlIsWrong : ChangeSpec := { name := "avlIs", fn := fun _ => fun
  | [d] => { results := [.lit (.bool false)], args := [d] }
  | _ => none }
def AvlIsWrongFalsely : Prop := avlIsRow.holds Try.pinned (OpenSpec.ofChange avlIsWrong)

/-- 'heartwoodlaw05.AvlGets': WHATEVER THE INPUT: true; the input reads as it did. -/
def avlGetsSpec : ChangeSpec := { name := "avlGets", fn := fun _ => fun
  | [d1, d2] => { results := [.lit (.bool true)], args := [d1, d2] }
  | _ => none }
def avlGetsRow : OpenClaim := { program := "ytebiajdkgpcidaa", sum := "60beef2ca2fe8aace2815c5c18276a6e72aff4ae0eb655ff9583a108a631e9ea", func := "heartwood/heartwoodlaw05.AvlGets", spec := "avlGets", inPlace := ["internal/bytealg.Compare"], unfollowed := true, recurses := true, loops := true, apart := false }
def AvlGetsSaid : Prop := avlGetsRow.holds Try.pinned (OpenSpec.ofChange avlGetsSpec)

/-- ITS FALSE NEIGHBOUR: 'it returns false'. Refute it at one input. -/
def avlGetsWrong : ChangeSpec := { name := "avlGets", fn := fun _ => fun
  | [d1, d2] => { results := [.lit (.bool false)], args := [d1, d2] }
  | _ => none }
def AvlGetsWrongFalsely : Prop := avlGetsRow.holds Try.pinned (OpenSpec.ofChange avlGetsWrong)

/-- 'heartwoodlaw05.AvlPuts': WHATEVER THE INPUT: true; the input reads as it did. -/
def avlPutsSpec : ChangeSpec := { name := "avlPuts", fn := fun _ => fun
  | [d1, d2, d3] => { results := [.lit (.bool true)], args := [d1, d2, d3] }
  | _ => none }
def avlPutsRow : OpenClaim := { program := "ytebiajdkgpcidaa", sum := "60beef2ca2fe8aace2815c5c18276a6e72aff4ae0eb655ff9583a108a631e9ea", func := "heartwood/heartwoodlaw05.AvlPuts", spec := "avlPuts", inPlace := ["internal/bytealg.Compare"], unfollowed := true, recurses := true, loops := true, apart := false }
def AvlPutsSaid : Prop := avlPutsRow.holds Try.pinned (OpenSpec.ofChange avlPutsSpec)

/-- ITS FALSE NEIGHBOUR: 'it returns false'. Refute it at one input. -/
def avlPutsWrong : ChangeSpec := { name := "avlPuts", fn := fun _ => fun
  | [d1, d2, d3] => { results := [.lit (.bool false)], args := [d1, d2, d3] }
  | _ => none }
def AvlPutsWrongFalsely : Prop := avlPutsRow.holds Try.pinned (OpenSpec.ofChange avlPutsWrong)

/-- 'heartwoodlaw10.CodeWrites': WHATEVER THE INPUT: true; the input reads as it did. -/
def codeWritesSpec : ChangeSpec := { name := "codeWrites", fn := fun _ => fun
  | [d] => { results := [.lit (.bool true)], args := [d] }
  | _ => none }
def codeWritesRow : OpenClaim := { program := "ytebiajdkgpcidaa", sum := "60beef2ca2fe8aace2815c5c18276a6e72aff4ae0eb655ff9583a108a631e9ea", func := "heartwood/heartwoodlaw10.CodeWrites", spec := "codeWrites", unfollowed := true, recurses := true, loops := true, apart := false }
def CodeWritesSaid : Prop := codeWritesRow.holds Try.pinned (OpenSpec.ofChange codeWritesSpec)

/-- ITS FALSE NEIGHBOUR: 'it returns false'. Refute it at one input. -/
def codeWritesWrong : ChangeSpec := { name := "codeWrites", fn := fun _ => fun
  | [d] => { results := [.lit (.bool false)], args := [d] }
  | _ => none }
def CodeWritesWrongFalsely : Prop := codeWritesRow.holds Try.pinned (OpenSpec.ofChange codeWritesWrong)

/-- 'heartwoodlaw10.CodeReads': WHATEVER THE INPUT: true; the input reads as it did. -/
def codeReadsSpec : ChangeSpec := { name := "codeReads", fn := fun _ => fun
  | [d] => { results := [.lit (.bool true)], args := [d] }
  | _ => none }
def codeReadsRow : OpenClaim := { program := "ytebiajdkgpcidaa", sum := "60beef2ca2fe8aace2815c5c18276a6e72aff4ae0eb655ff9583a108a631e9ea", func := "heartwood/heartwoodlaw10.CodeReads", spec := "codeReads", unfollowed := true, recurses := true, apart := false }
def CodeReadsSaid : Prop := codeReadsRow.holds Try.pinned (OpenSpec.ofChange codeReadsSpec)

/-- ITS FALSE NEIGHBOUR: 'it returns false'. Refute it at one input. -/
def codeReadsWrong : ChangeSpec := { name := "codeReads", fn := fun _ => fun
  | [d] => { results := [.lit (.bool false)], args := [d] }
  | _ => none }
def CodeReadsWrongFalsely : Prop := codeReadsRow.holds Try.pinned (OpenSpec.ofChange codeReadsWrong)

/-- 'heartwoodlaw10.CodeBack': WHATEVER THE INPUT: true; the input reads as it did. -/
def codeBackSpec : ChangeSpec := { name := "codeBack", fn := fun _ => fun
  | [d1, d2, d3] => { results := [.lit (.bool true)], args := [d1, d2, d3] }
  | _ => none }
def codeBackRow : OpenClaim := { program := "ytebiajdkgpcidaa", sum := "60beef2ca2fe8aace2815c5c18276a6e72aff4ae0eb655ff9583a108a631e9ea", func := "heartwood/heartwoodlaw10.CodeBack", spec := "codeBack", unfollowed := true, recurses := true, loops := true, apart := false }
def CodeBackSaid : Prop := codeBackRow.holds Try.pinned (OpenSpec.ofChange codeBackSpec)

/-- ITS FALSE NEIGHBOUR: 'it returns false'. Refute it at one input. -/
def codeBackWrong : ChangeSpec := { name := "codeBack", fn := fun _ => fun
  | [d1, d2, d3] => { results := [.lit (.bool false)], args := [d1, d2, d3] }
  | _ => none }
def CodeBackWrongFalsely : Prop := codeBackRow.holds Try.pinned (OpenSpec.ofChange codeBackWrong)

/-- 'heartwoodlaw10.CodeStays': WHATEVER THE INPUT: true; the input reads as it did. -/
def codeStaysSpec : ChangeSpec := { name := "codeStays", fn := fun _ => fun
  | [d1, d2] => { results := [.lit (.bool true)], args := [d1, d2] }
  | _ => none }
def codeStaysRow : OpenClaim := { program := "ytebiajdkgpcidaa", sum := "60beef2ca2fe8aace2815c5c18276a6e72aff4ae0eb655ff9583a108a631e9ea", func := "heartwood/heartwoodlaw10.CodeStays", spec := "codeStays", unfollowed := true, recurses := true, loops := true, apart := false }
def CodeStaysSaid : Prop := codeStaysRow.holds Try.pinned (OpenSpec.ofChange codeStaysSpec)

/-- ITS FALSE NEIGHBOUR: 'it returns false'. Refute it at one input. -/
def codeStaysWrong : ChangeSpec := { name := "codeStays", fn := fun _ => fun
  | [d1, d2] => { results := [.lit (.bool false)], args := [d1, d2] }
  | _ => none }
def CodeStaysWrongFalsely : Prop := codeStaysRow.holds Try.pinned (OpenSpec.ofChange codeStaysWrong)

/-- 'heartwoodlaw05.AvlDeletes': WHATEVER THE INPUT: true; the input reads as it did. -/
def avlDeletesSpec : ChangeSpec := { name := "avlDeletes", fn := fun _ => fun
  | [d1, d2] => { results := [.lit (.bool true)], args := [d1, d2] }
  | _ => none }
def avlDeletesRow : OpenClaim := { program := "ytebiajdkgpcidaa", sum := "60beef2ca2fe8aace2815c5c18276a6e72aff4ae0eb655ff9583a108a631e9ea", func := "heartwood/heartwoodlaw05.AvlDeletes", spec := "avlDeletes", inPlace := ["internal/bytealg.Compare"], unfollowed := true, recurses := true, loops := true, apart := false }
def AvlDeletesSaid : Prop := avlDeletesRow.holds Try.pinned (OpenSpec.ofChange avlDeletesSpec)

/-- ITS FALSE NEIGHBOUR: 'it returns false'. Refute it at one input. -/
def avlDeletesWrong : ChangeSpec := { name := "avlDeletes", fn := fun _ => fun
  | [d1, d2] => { results := [.lit (.bool false)], args := [d1, d2] }
  | _ => none }
def AvlDeletesWrongFalsely : Prop := avlDeletesRow.holds Try.pinned (OpenSpec.ofChange avlDeletesWrong)

/-- 'heartwoodlaw05.AvlHolds': WHATEVER THE INPUT: true; the input reads as it did. -/
def avlHoldsSpec : ChangeSpec := { name := "avlHolds", fn := fun _ => fun
  | [d] => { results := [.lit (.bool true)], args := [d] }
  | _ => none }
def avlHoldsRow : OpenClaim := { program := "ytebiajdkgpcidaa", sum := "60beef2ca2fe8aace2815c5c18276a6e72aff4ae0eb655ff9583a108a631e9ea", func := "heartwood/heartwoodlaw05.AvlHolds", spec := "avlHolds", inPlace := ["internal/bytealg.Compare"], unfollowed := true, recurses := true, apart := false }
def AvlHoldsSaid : Prop := avlHoldsRow.holds Try.pinned (OpenSpec.ofChange avlHoldsSpec)

/-- ITS FALSE NEIGHBOUR: 'it returns false'. Refute it at one input. -/
def avlHoldsWrong : ChangeSpec := { name := "avlHolds", fn := fun _ => fun
  | [d] => { results := [.lit (.bool false)], args := [d] }
  | _ => none }
def AvlHoldsWrongFalsely : Prop := avlHoldsRow.holds Try.pinned (OpenSpec.ofChange avlHoldsWrong)

/- THE SECOND FORM. 'bulk': how many values and letters a reading holds, each counted each time it is reached (what is shared counts as often as it is met; a slice's spare places count too). A statement '..UptoSaid' is the law's where the arguments, and the package variables that the reading takes, are together of bulk at most 1048576: NARROWER than '..Said'. Prove '..Said' where nothing that the law and all that it calls make is longer than what came in: it says more and counts as full. Else prove '..UptoSaid'. A law counts once. -/
mutual
def uptoBulk {H : Type} : DataW H → Nat
  | .lit (.string bytes) => bytes.length + 1
  | .lit _ => 1
  | .nil => 1
  | .ptr d => uptoBulk d + 1
  | .slice elems spare => uptoBulkAll elems + uptoBulkAll spare + 1
  | .agg parts => uptoBulkAll parts + 1
  | .iface _ d => uptoBulk d + 1
  | .map entries => uptoBulkEntries entries + 1
  | .held _ => 1
def uptoBulkAll {H : Type} : List (DataW H) → Nat
  | [] => 0
  | d :: r => uptoBulk d + uptoBulkAll r
def uptoBulkEntries {H : Type} : List (Lit × DataW H) → Nat
  | [] => 0
  | x :: r => uptoBulkEntry x + uptoBulkEntries r
def uptoBulkEntry {H : Type} : Lit × DataW H → Nat
  | (.string bytes, d) => bytes.length + uptoBulk d + 1
  | (_, d) => uptoBulk d + 1
 end
def uptoSmall : (H : Type) → List (DataW H) → Bool := fun _ ds => decide (uptoBulkAll ds ≤ 1048576)
def OpenSpec.upto (s : _root_.Go.ChangeSpec) : _root_.Go.OpenSpec := { _root_.Go.OpenSpec.ofChange s with cond := some uptoSmall }

/-- 'heartwoodlaw06.ScanIn', WHERE WHAT IT READS IS OF BULK AT MOST 1048576: true; the input reads as it did. -/
def scanInUptoRow : OpenClaim := { program := "ytebiajdkgpcidaa", sum := "60beef2ca2fe8aace2815c5c18276a6e72aff4ae0eb655ff9583a108a631e9ea", func := "heartwood/heartwoodlaw06.ScanIn", spec := "scanIn", inPlace := ["internal/bytealg.Compare"], apart := false, narrowed := true }
def ScanInUptoSaid : Prop := scanInUptoRow.holds Try.pinned (OpenSpec.upto scanInSpec)

/-- 'heartwoodlaw06.ScanEmpty', WHERE WHAT IT READS IS OF BULK AT MOST 1048576: true; the input reads as it did. -/
def scanEmptyUptoRow : OpenClaim := { program := "ytebiajdkgpcidaa", sum := "60beef2ca2fe8aace2815c5c18276a6e72aff4ae0eb655ff9583a108a631e9ea", func := "heartwood/heartwoodlaw06.ScanEmpty", spec := "scanEmpty", inPlace := ["internal/bytealg.Compare"], apart := false, narrowed := true }
def ScanEmptyUptoSaid : Prop := scanEmptyUptoRow.holds Try.pinned (OpenSpec.upto scanEmptySpec)

/-- 'heartwoodlaw06.ScanNone', WHERE WHAT IT READS IS OF BULK AT MOST 1048576: true; the input reads as it did. -/
def scanNoneUptoRow : OpenClaim := { program := "ytebiajdkgpcidaa", sum := "60beef2ca2fe8aace2815c5c18276a6e72aff4ae0eb655ff9583a108a631e9ea", func := "heartwood/heartwoodlaw06.ScanNone", spec := "scanNone", inPlace := ["internal/bytealg.Compare"], apart := false, narrowed := true }
def ScanNoneUptoSaid : Prop := scanNoneUptoRow.holds Try.pinned (OpenSpec.upto scanNoneSpec)

/-- 'heartwoodlaw06.ScanRanges', WHERE WHAT IT READS IS OF BULK AT MOST 1048576: true; the input reads as it did. -/
def scanRangesUptoRow : OpenClaim := { program := "ytebiajdkgpcidaa", sum := "60beef2ca2fe8aace2815c5c18276a6e72aff4ae0eb655ff9583a108a631e9ea", func := "heartwood/heartwoodlaw06.ScanRanges", spec := "scanRanges", inPlace := ["internal/bytealg.Compare"], unfollowed := true, recurses := true, loops := true, apart := false, narrowed := true }
def ScanRangesUptoSaid : Prop := scanRangesUptoRow.holds Try.pinned (OpenSpec.upto scanRangesSpec)

/-- 'heartwoodlaw06.ScanStays', WHERE WHAT IT READS IS OF BULK AT MOST 1048576: true; the input reads as it did. -/
def scanStaysUptoRow : OpenClaim := { program := "ytebiajdkgpcidaa", sum := "60beef2ca2fe8aace2815c5c18276a6e72aff4ae0eb655ff9583a108a631e9ea", func := "heartwood/heartwoodlaw06.ScanStays", spec := "scanStays", inPlace := ["internal/bytealg.Compare"], unfollowed := true, recurses := true, apart := false, narrowed := true }
def ScanStaysUptoSaid : Prop := scanStaysUptoRow.holds Try.pinned (OpenSpec.upto scanStaysSpec)

/-- 'heartwoodlaw06.ScanParts', WHERE WHAT IT READS IS OF BULK AT MOST 1048576: true; the input reads as it did. -/
def scanPartsUptoRow : OpenClaim := { program := "ytebiajdkgpcidaa", sum := "60beef2ca2fe8aace2815c5c18276a6e72aff4ae0eb655ff9583a108a631e9ea", func := "heartwood/heartwoodlaw06.ScanParts", spec := "scanParts", inPlace := ["internal/bytealg.Compare"], unfollowed := true, recurses := true, apart := false, narrowed := true }
def ScanPartsUptoSaid : Prop := scanPartsUptoRow.holds Try.pinned (OpenSpec.upto scanPartsSpec)

/-- 'heartwoodlaw05.AvlIs', WHERE WHAT IT READS IS OF BULK AT MOST 1048576: true; the input reads as it did. -/
def avlIsUptoRow : OpenClaim := { program := "ytebiajdkgpcidaa", sum := "60beef2ca2fe8aace2815c5c18276a6e72aff4ae0eb655ff9583a108a631e9ea", func := "heartwood/heartwoodlaw05.AvlIs", spec := "avlIs", inPlace := ["internal/bytealg.Compare"], unfollowed := true, recurses := true, loops := true, apart := false, narrowed := true }
def AvlIsUptoSaid : Prop := avlIsUptoRow.holds Try.pinned (OpenSpec.upto avlIsSpec)

/-- 'heartwoodlaw05.AvlGets', WHERE WHAT IT READS IS OF BULK AT MOST 1048576: true; the input reads as it did. -/
def avlGetsUptoRow : OpenClaim := { program := "ytebiajdkgpcidaa", sum := "60beef2ca2fe8aace2815c5c18276a6e72aff4ae0eb655ff9583a108a631e9ea", func := "heartwood/heartwoodlaw05.AvlGets", spec := "avlGets", inPlace := ["internal/bytealg.Compare"], unfollowed := true, recurses := true, loops := true, apart := false, narrowed := true }
def AvlGetsUptoSaid : Prop := avlGetsUptoRow.holds Try.pinned (OpenSpec.upto avlGetsSpec)

/-- 'heartwoodlaw05.AvlPuts', WHERE WHAT IT READS IS OF BULK AT MOST 1048576: true; the input reads as it did. -/
def avlPutsUptoRow : OpenClaim := { program := "ytebiajdkgpcidaa", sum := "60beef2ca2fe8aace2815c5c18276a6e72aff4ae0eb655ff9583a108a631e9ea", func := "heartwood/heartwoodlaw05.AvlPuts", spec := "avlPuts", inPlace := ["internal/bytealg.Compare"], unfollowed := true, recurses := true, loops := true, apart := false, narrowed := true }
def AvlPutsUptoSaid : Prop := avlPutsUptoRow.holds Try.pinned (OpenSpec.upto avlPutsSpec)

/-- 'heartwoodlaw10.CodeWrites', WHERE WHAT IT READS IS OF BULK AT MOST 1048576: true; the input reads as it did. -/
def codeWritesUptoRow : OpenClaim := { program := "ytebiajdkgpcidaa", sum := "60beef2ca2fe8aace2815c5c18276a6e72aff4ae0eb655ff9583a108a631e9ea", func := "heartwood/heartwoodlaw10.CodeWrites", spec := "codeWrites", unfollowed := true, recurses := true, loops := true, apart := false, narrowed := true }
def CodeWritesUptoSaid : Prop := codeWritesUptoRow.holds Try.pinned (OpenSpec.upto codeWritesSpec)

/-- 'heartwoodlaw10.CodeReads', WHERE WHAT IT READS IS OF BULK AT MOST 1048576: true; the input reads as it did. -/
def codeReadsUptoRow : OpenClaim := { program := "ytebiajdkgpcidaa", sum := "60beef2ca2fe8aace2815c5c18276a6e72aff4ae0eb655ff9583a108a631e9ea", func := "heartwood/heartwoodlaw10.CodeReads", spec := "codeReads", unfollowed := true, recurses := true, apart := false, narrowed := true }
def CodeReadsUptoSaid : Prop := codeReadsUptoRow.holds Try.pinned (OpenSpec.upto codeReadsSpec)

/-- 'heartwoodlaw10.CodeBack', WHERE WHAT IT READS IS OF BULK AT MOST 1048576: true; the input reads as it did. -/
def codeBackUptoRow : OpenClaim := { program := "ytebiajdkgpcidaa", sum := "60beef2ca2fe8aace2815c5c18276a6e72aff4ae0eb655ff9583a108a631e9ea", func := "heartwood/heartwoodlaw10.CodeBack", spec := "codeBack", unfollowed := true, recurses := true, loops := true, apart := false, narrowed := true }
def CodeBackUptoSaid : Prop := codeBackUptoRow.holds Try.pinned (OpenSpec.upto codeBackSpec)

/-- 'heartwoodlaw10.CodeStays', WHERE WHAT IT READS IS OF BULK AT MOST 1048576: true; the input reads as it did. -/
def codeStaysUptoRow : OpenClaim := { program := "ytebiajdkgpcidaa", sum := "60beef2ca2fe8aace2815c5c18276a6e72aff4ae0eb655ff9583a108a631e9ea", func := "heartwood/heartwoodlaw10.CodeStays", spec := "codeStays", unfollowed := true, recurses := true, loops := true, apart := false, narrowed := true }
def CodeStaysUptoSaid : Prop := codeStaysUptoRow.holds Try.pinned (OpenSpec.upto codeStaysSpec)

/-- 'heartwoodlaw05.AvlDeletes', WHERE WHAT IT READS IS OF BULK AT MOST 1048576: true; the input reads as it did. -/
def avlDeletesUptoRow : OpenClaim := { program := "ytebiajdkgpcidaa", sum := "60beef2ca2fe8aace2815c5c18276a6e72aff4ae0eb655ff9583a108a631e9ea", func := "heartwood/heartwoodlaw05.AvlDeletes", spec := "avlDeletes", inPlace := ["internal/bytealg.Compare"], unfollowed := true, recurses := true, loops := true, apart := false, narrowed := true }
def AvlDeletesUptoSaid : Prop := avlDeletesUptoRow.holds Try.pinned (OpenSpec.upto avlDeletesSpec)

/-- 'heartwoodlaw05.AvlHolds', WHERE WHAT IT READS IS OF BULK AT MOST 1048576: true; the input reads as it did. -/
def avlHoldsUptoRow : OpenClaim := { program := "ytebiajdkgpcidaa", sum := "60beef2ca2fe8aace2815c5c18276a6e72aff4ae0eb655ff9583a108a631e9ea", func := "heartwood/heartwoodlaw05.AvlHolds", spec := "avlHolds", inPlace := ["internal/bytealg.Compare"], unfollowed := true, recurses := true, apart := false, narrowed := true }
def AvlHoldsUptoSaid : Prop := avlHoldsUptoRow.holds Try.pinned (OpenSpec.upto avlHoldsSpec)

end Rows
end Go.Proofs.Ytebiajdkgpcidaa
