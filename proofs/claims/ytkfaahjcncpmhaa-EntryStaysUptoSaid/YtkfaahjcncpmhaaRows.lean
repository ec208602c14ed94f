/-
  NARROWER THAN 'FOR EVERY INPUT', by the rows' own cells (each row's printed sentence says how): EntryWrites: loops · EntryStays: loops · EntryBack: loops · NetPlays: loops.
  DERIVED. THE GIVEN ROWS OF THIS SEAT. 12 by the template 'for every input the law returns true; each argument reads behind the call as it read before'; 0 by the template 'total and deterministic' (their statements: YtkfaahjcncpmhaaTotals.lean).
  GIVEN WITH THE SEED: the statements are not yours to turn. If you find one false, say at which input.
  Laid BY PROGRAM, IN A SANDBOX (cutbox-rows.mjs): the forced cells as the released guide's own fill.sh prints them over the translation ef3732c4544179de… (all of the seat's roots in one cut). By AI agents, Wed Nov 11 2026. No macro, syntax, notation, axiom, sorry.
-/
import Derived.Test.YtkfaahjcncpmhaaChecked
import GoSem.Claim
import GoSem.ClaimJoined
import GoSem.ClaimMapViews
import Derived.JoinedTies
import Derived.KernelRfl
namespace Go.Proofs.Ytkfaahjcncpmhaa
/- THE CELL 'sum', in the pinned program and in every row, IS THE sha256 OF THE DUMP (.gsa) THAT YtkfaahjcncpmhaaProg.lean LOADS. Nothing in Lean hashes anything: it is a label: what it is worth is what the hold of that sum in a sandbox is worth. -/
noncomputable def Try.pinned : Pinned := { name := "ytkfaahjcncpmhaa", sum := "ef3732c4544179dea2b90f9e2f57556fe02abb73a3390a0db2ac3e2af50dfa2f", checked := Try.checked }
namespace Rows
def none {H : Type} : Left H := { results := [], args := [] }

/-- 'heartwoodlaw17.ConfMost': WHATEVER THE INPUT: true; the input reads as it did. -/
def confMostSpec : ChangeSpec := { name := "confMost", fn := fun _ => fun
  | [d1, d2, d3] => { results := [.lit (.bool true)], args := [d1, d2, d3] }
  | _ => none }
def confMostRow : OpenClaim := { program := "ytkfaahjcncpmhaa", sum := "ef3732c4544179dea2b90f9e2f57556fe02abb73a3390a0db2ac3e2af50dfa2f", func := "heartwood/heartwoodlaw17.ConfMost", spec := "confMost", unfollowed := true, recurses := true, plainKeys := false, apart := false }
def ConfMostSaid : Prop := confMostRow.holds Try.pinned (OpenSpec.ofChange confMostSpec)

/-- ITS FALSE NEIGHBOUR: 'it returns false'. Refute it at one input. -/
def confMostWrong : ChangeSpec := { name := "confMost", fn := fun _ => fun
  | [d1, d2, d3] => { results := [.lit (.bool false)], args := [d1, d2, d3] }
  | _ => none }
def ConfMostWrongFalsely : Prop := confMostRow.holds Try.pinned (OpenSpec.ofChange confMostWrong)

/-- 'heartwoodlaw17.ConfStep': WHATEVER THE INPUT: true; the input reads as it did. -/
def confStepSpec : ChangeSpec := { name := "confStep", fn := fun _ => fun
  | [d1, d2] => { results := [.lit (.bool true)], args := [d1, d2] }
  | _ => none }
def confStepRow : OpenClaim := { program := "ytkfaahjcncpmhaa", sum := "ef3732c4544179dea2b90f9e2f57556fe02abb73a3390a0db2ac3e2af50dfa2f", func := "heartwood/heartwoodlaw17.ConfStep", spec := "confStep", unfollowed := true, recurses := true, plainKeys := false, apart := false }
def ConfStepSaid : Prop := confStepRow.holds Try.pinned (OpenSpec.ofChange confStepSpec)

/-- ITS FALSE NEIGHBOUR: 'it returns false'. Refute it at one input. -/
def confStepWrong : ChangeSpec := { name := "confStep", fn := fun _ => fun
  | [d1, d2] => { results := [.lit (.bool false)], args := [d1, d2] }
  | _ => none }
def ConfStepWrongFalsely : Prop := confStepRow.holds Try.pinned (OpenSpec.ofChange confStepWrong)

/-- 'heartwoodlaw17.ConfMeet': WHATEVER THE INPUT: true; the input reads as it did. -/
def confMeetSpec : ChangeSpec := { name := "confMeet", fn := fun _ => fun
  | [d1, d2, d3, d4] => { results := [.lit (.bool true)], args := [d1, d2, d3, d4] }
  | _ => none }
def confMeetRow : OpenClaim := { program := "ytkfaahjcncpmhaa", sum := "ef3732c4544179dea2b90f9e2f57556fe02abb73a3390a0db2ac3e2af50dfa2f", func := "heartwood/heartwoodlaw17.ConfMeet", spec := "confMeet", unfollowed := true, recurses := true, plainKeys := false, apart := false }
def ConfMeetSaid : Prop := confMeetRow.holds Try.pinned (OpenSpec.ofChange confMeetSpec)

/-- ITS FALSE NEIGHBOUR: 'it returns false'. Refute it at one input. -/
def confMeetWrong : ChangeSpec := { name := "confMeet", fn := fun _ => fun
  | [d1, d2, d3, d4] => { results := [.lit (.bool false)], args := [d1, d2, d3, d4] }
  | _ => none }
def ConfMeetWrongFalsely : Prop := confMeetRow.holds Try.pinned (OpenSpec.ofChange confMeetWrong)

/-- 'heartwoodlaw17.ConfBytes': WHATEVER THE INPUT: true; the input reads as it did. -/
def confBytesSpec : ChangeSpec := { name := "confBytes", fn := fun _ => fun
  | [d1, d2] => { results := [.lit (.bool true)], args := [d1, d2] }
  | _ => none }
def confBytesRow : OpenClaim := { program := "ytkfaahjcncpmhaa", sum := "ef3732c4544179dea2b90f9e2f57556fe02abb73a3390a0db2ac3e2af50dfa2f", func := "heartwood/heartwoodlaw17.ConfBytes", spec := "confBytes", unfollowed := true, recurses := true, plainKeys := false, apart := false }
def ConfBytesSaid : Prop := confBytesRow.holds Try.pinned (OpenSpec.ofChange confBytesSpec)

/-- ITS FALSE NEIGHBOUR: 'it returns false'. Refute it at one input. -/
def confBytesWrong : ChangeSpec := { name := "confBytes", fn := fun _ => fun
  | [d1, d2] => { results := [.lit (.bool false)], args := [d1, d2] }
  | _ => none }
def ConfBytesWrongFalsely : Prop := confBytesRow.holds Try.pinned (OpenSpec.ofChange confBytesWrong)

/-- 'heartwoodlaw17.ConfStays': WHATEVER THE INPUT: true; the input reads as it did. -/
def confStaysSpec : ChangeSpec := { name := "confStays", fn := fun _ => fun
  | [d1, d2] => { results := [.lit (.bool true)], args := [d1, d2] }
  | _ => none }
def confStaysRow : OpenClaim := { program := "ytkfaahjcncpmhaa", sum := "ef3732c4544179dea2b90f9e2f57556fe02abb73a3390a0db2ac3e2af50dfa2f", func := "heartwood/heartwoodlaw17.ConfStays", spec := "confStays", unfollowed := true, recurses := true, plainKeys := false, apart := false }
def ConfStaysSaid : Prop := confStaysRow.holds Try.pinned (OpenSpec.ofChange confStaysSpec)

/-- ITS FALSE NEIGHBOUR: 'it returns false'. Refute it at one input. -/
def confStaysWrong : ChangeSpec := { name := "confStays", fn := fun _ => fun
  | [d1, d2] => { results := [.lit (.bool false)], args := [d1, d2] }
  | _ => none }
def ConfStaysWrongFalsely : Prop := confStaysRow.holds Try.pinned (OpenSpec.ofChange confStaysWrong)

/-- 'heartwoodlaw14.EntryLogs': WHATEVER THE INPUT: true; the input reads as it did. -/
def entryLogsSpec : ChangeSpec := { name := "entryLogs", fn := fun _ => fun
  | [d] => { results := [.lit (.bool true)], args := [d] }
  | _ => none }
def entryLogsRow : OpenClaim := { program := "ytkfaahjcncpmhaa", sum := "ef3732c4544179dea2b90f9e2f57556fe02abb73a3390a0db2ac3e2af50dfa2f", func := "heartwood/heartwoodlaw14.EntryLogs", spec := "entryLogs", unfollowed := true, recurses := true, plainKeys := false, apart := false }
def EntryLogsSaid : Prop := entryLogsRow.holds Try.pinned (OpenSpec.ofChange entryLogsSpec)

/-- ITS FALSE NEIGHBOUR: 'it returns false'. Refute it at one input. -/
def entryLogsWrong : ChangeSpec := { name := "entryLogs", fn := fun _ => fun
  | [d] => { results := [.lit (.bool false)], args := [d] }
  | _ => none }
def EntryLogsWrongFalsely : Prop := entryLogsRow.holds Try.pinned (OpenSpec.ofChange entryLogsWrong)

/-- 'heartwoodlaw14.EntryReads': WHATEVER THE INPUT: true; the input reads as it did. -/
def entryReadsSpec : ChangeSpec := { name := "entryReads", fn := fun _ => fun
  | [d] => { results := [.lit (.bool true)], args := [d] }
  | _ => none }
def entryReadsRow : OpenClaim := { program := "ytkfaahjcncpmhaa", sum := "ef3732c4544179dea2b90f9e2f57556fe02abb73a3390a0db2ac3e2af50dfa2f", func := "heartwood/heartwoodlaw14.EntryReads", spec := "entryReads", unfollowed := true, recurses := true, plainKeys := false, apart := false }
def EntryReadsSaid : Prop := entryReadsRow.holds Try.pinned (OpenSpec.ofChange entryReadsSpec)

/-- ITS FALSE NEIGHBOUR: 'it returns false'. Refute it at one input. -/
def entryReadsWrong : ChangeSpec := { name := "entryReads", fn := fun _ => fun
  | [d] => { results := [.lit (.bool false)], args := [d] }
  | _ => none }
def EntryReadsWrongFalsely : Prop := entryReadsRow.holds Try.pinned (OpenSpec.ofChange entryReadsWrong)

/-- 'heartwoodlaw14.EntryWrites': WHATEVER THE INPUT: true; the input reads as it did. -/
def entryWritesSpec : ChangeSpec := { name := "entryWrites", fn := fun _ => fun
  | [d] => { results := [.lit (.bool true)], args := [d] }
  | _ => none }
def entryWritesRow : OpenClaim := { program := "ytkfaahjcncpmhaa", sum := "ef3732c4544179dea2b90f9e2f57556fe02abb73a3390a0db2ac3e2af50dfa2f", func := "heartwood/heartwoodlaw14.EntryWrites", spec := "entryWrites", unfollowed := true, recurses := true, loops := true, plainKeys := false, apart := false }
def EntryWritesSaid : Prop := entryWritesRow.holds Try.pinned (OpenSpec.ofChange entryWritesSpec)

/-- ITS FALSE NEIGHBOUR: 'it returns false'. Refute it at one input. -/
def entryWritesWrong : ChangeSpec := { name := "entryWrites", fn := fun _ => fun
  | [d] => { results := [.lit (.bool false)], args := [d] }
  | _ => none }
def EntryWritesWrongFalsely : Prop := entryWritesRow.holds Try.pinned (OpenSpec.ofChange entryWritesWrong)

/-- 'heartwoodlaw14.EntryStays': WHATEVER THE INPUT: true; the input reads as it did. -/
def entryStaysSpec : ChangeSpec := { name := "entryStays", fn := fun _ => fun
  | [d1, d2] => { results := [.lit (.bool true)], args := [d1, d2] }
  | _ => none }
def entryStaysRow : OpenClaim := { program := "ytkfaahjcncpmhaa", sum := "ef3732c4544179dea2b90f9e2f57556fe02abb73a3390a0db2ac3e2af50dfa2f", func := "heartwood/heartwoodlaw14.EntryStays", spec := "entryStays", unfollowed := true, recurses := true, loops := true, plainKeys := false, apart := false }
def EntryStaysSaid : Prop := entryStaysRow.holds Try.pinned (OpenSpec.ofChange entryStaysSpec)

/-- ITS FALSE NEIGHBOUR: 'it returns false'. Refute it at one input. -/
def entryStaysWrong : ChangeSpec := { name := "entryStays", fn := fun _ => fun
  | [d1, d2] => { results := [.lit (.bool false)], args := [d1, d2] }
  | _ => none }
def EntryStaysWrongFalsely : Prop := entryStaysRow.holds Try.pinned (OpenSpec.ofChange entryStaysWrong)

/-- 'heartwoodlaw14.EntryBack': WHATEVER THE INPUT: true; the input reads as it did. -/
def entryBackSpec : ChangeSpec := { name := "entryBack", fn := fun _ => fun
  | [d1, d2, d3] => { results := [.lit (.bool true)], args := [d1, d2, d3] }
  | _ => none }
def entryBackRow : OpenClaim := { program := "ytkfaahjcncpmhaa", sum := "ef3732c4544179dea2b90f9e2f57556fe02abb73a3390a0db2ac3e2af50dfa2f", func := "heartwood/heartwoodlaw14.EntryBack", spec := "entryBack", unfollowed := true, recurses := true, loops := true, plainKeys := false, apart := false }
def EntryBackSaid : Prop := entryBackRow.holds Try.pinned (OpenSpec.ofChange entryBackSpec)

/-- ITS FALSE NEIGHBOUR: 'it returns false'. Refute it at one input. -/
def entryBackWrong : ChangeSpec := { name := "entryBack", fn := fun _ => fun
  | [d1, d2, d3] => { results := [.lit (.bool false)], args := [d1, d2, d3] }
  | _ => none }
def EntryBackWrongFalsely : Prop := entryBackRow.holds Try.pinned (OpenSpec.ofChange entryBackWrong)

/-- 'heartwoodlaw21.NetFull': WHATEVER THE INPUT: true; the input reads as it did. -/
def netFullSpec : ChangeSpec := { name := "netFull", fn := fun _ => fun
  | [d1, d2, d3] => { results := [.lit (.bool true)], args := [d1, d2, d3] }
  | _ => none }
def netFullRow : OpenClaim := { program := "ytkfaahjcncpmhaa", sum := "ef3732c4544179dea2b90f9e2f57556fe02abb73a3390a0db2ac3e2af50dfa2f", func := "heartwood/heartwoodlaw21.NetFull", spec := "netFull", unfollowed := true, recurses := true, plainKeys := false, apart := false }
def NetFullSaid : Prop := netFullRow.holds Try.pinned (OpenSpec.ofChange netFullSpec)

/-- ITS FALSE NEIGHBOUR: 'it returns false'. Refute it at one input. -/
def netFullWrong : ChangeSpec := { name := "netFull", fn := fun _ => fun
  | [d1, d2, d3] => { results := [.lit (.bool false)], args := [d1, d2, d3] }
  | _ => none }
def NetFullWrongFalsely : Prop := netFullRow.holds Try.pinned (OpenSpec.ofChange netFullWrong)

/-- 'heartwoodlaw21.NetPlays': WHATEVER THE INPUT: true; the input reads as it did. -/
def netPlaysSpec : ChangeSpec := { name := "netPlays", fn := fun _ => fun
  | [d] => { results := [.lit (.bool true)], args := [d] }
  | _ => none }
def netPlaysRow : OpenClaim := { program := "ytkfaahjcncpmhaa", sum := "ef3732c4544179dea2b90f9e2f57556fe02abb73a3390a0db2ac3e2af50dfa2f", func := "heartwood/heartwoodlaw21.NetPlays", spec := "netPlays", unfollowed := true, recurses := true, loops := true, plainKeys := false, apart := false }
def NetPlaysSaid : Prop := netPlaysRow.holds Try.pinned (OpenSpec.ofChange netPlaysSpec)

/-- ITS FALSE NEIGHBOUR: 'it returns false'. Refute it at one input. -/
def netPlaysWrong : ChangeSpec := { name := "netPlays", fn := fun _ => fun
  | [d] => { results := [.lit (.bool false)], args := [d] }
  | _ => none }
def NetPlaysWrongFalsely : Prop := netPlaysRow.holds Try.pinned (OpenSpec.ofChange netPlaysWrong)

/- THE SECOND FORM. 'bulk': how many values and letters a reading holds, each counted each time it is reached (what is shared counts as often as it is met; a slice's spare places count too). A statement '..UptoSaid' is the law's where the arguments, and the package variables that the reading takes, are together of bulk at most 1048576: NARROWER than '..Said'. Prove '..Said' where nothing that the law and all that it calls make is longer than what came in: it says more and counts as full. Else prove '..UptoSaid'. A law counts once. -/
mutual
def uptoBulk {H : Type} : DataW H → Nat
  | .lit (.string bytes) => bytes.length + 1
  | .lit _ => 1
  | .nil => 1
  | .ptr d => uptoBulk d + 1
  | .slice elems spare => uptoBulkAll elems + uptoBulkAll spare + 1
  | .agg parts => uptoBulkAll parts + 1
  | .iface _ d => uptoBulk d + 1
  | .map entries => uptoBulkEntries entries + 1
  | .held _ => 1
def uptoBulkAll {H : Type} : List (DataW H) → Nat
  | [] => 0
  | d :: r => uptoBulk d + uptoBulkAll r
def uptoBulkEntries {H : Type} : List (Lit × DataW H) → Nat
  | [] => 0
  | x :: r => uptoBulkEntry x + uptoBulkEntries r
def uptoBulkEntry {H : Type} : Lit × DataW H → Nat
  | (.string bytes, d) => bytes.length + uptoBulk d + 1
  | (_, d) => uptoBulk d + 1
 end
def uptoSmall : (H : Type) → List (DataW H) → Bool := fun _ ds => decide (uptoBulkAll ds ≤ 1048576)
def OpenSpec.upto (s : _root_.Go.ChangeSpec) : _root_.Go.OpenSpec := { _root_.Go.OpenSpec.ofChange s with cond := some uptoSmall }

/-- 'heartwoodlaw17.ConfMost', WHERE WHAT IT READS IS OF BULK AT MOST 1048576: true; the input reads as it did. -/
def confMostUptoRow : OpenClaim := { program := "ytkfaahjcncpmhaa", sum := "ef3732c4544179dea2b90f9e2f57556fe02abb73a3390a0db2ac3e2af50dfa2f", func := "heartwood/heartwoodlaw17.ConfMost", spec := "confMost", unfollowed := true, recurses := true, plainKeys := false, apart := false, narrowed := true }
def ConfMostUptoSaid : Prop := confMostUptoRow.holds Try.pinned (OpenSpec.upto confMostSpec)

/-- 'heartwoodlaw17.ConfStep', WHERE WHAT IT READS IS OF BULK AT MOST 1048576: true; the input reads as it did. -/
def confStepUptoRow : OpenClaim := { program := "ytkfaahjcncpmhaa", sum := "ef3732c4544179dea2b90f9e2f57556fe02abb73a3390a0db2ac3e2af50dfa2f", func := "heartwood/heartwoodlaw17.ConfStep", spec := "confStep", unfollowed := true, recurses := true, plainKeys := false, apart := false, narrowed := true }
def ConfStepUptoSaid : Prop := confStepUptoRow.holds Try.pinned (OpenSpec.upto confStepSpec)

/-- 'heartwoodlaw17.ConfMeet', WHERE WHAT IT READS IS OF BULK AT MOST 1048576: true; the input reads as it did. -/
def confMeetUptoRow : OpenClaim := { program := "ytkfaahjcncpmhaa", sum := "ef3732c4544179dea2b90f9e2f57556fe02abb73a3390a0db2ac3e2af50dfa2f", func := "heartwood/heartwoodlaw17.ConfMeet", spec := "confMeet", unfollowed := true, recurses := true, plainKeys := false, apart := false, narrowed := true }
def ConfMeetUptoSaid : Prop := confMeetUptoRow.holds Try.pinned (OpenSpec.upto confMeetSpec)

/-- 'heartwoodlaw17.ConfBytes', WHERE WHAT IT READS IS OF BULK AT MOST 1048576: true; the input reads as it did. -/
def confBytesUptoRow : OpenClaim := { program := "ytkfaahjcncpmhaa", sum := "ef3732c4544179dea2b90f9e2f57556fe02abb73a3390a0db2ac3e2af50dfa2f", func := "heartwood/heartwoodlaw17.ConfBytes", spec := "confBytes", unfollowed := true, recurses := true, plainKeys := false, apart := false, narrowed := true }
def ConfBytesUptoSaid : Prop := confBytesUptoRow.holds Try.pinned (OpenSpec.upto confBytesSpec)

/-- 'heartwoodlaw17.ConfStays', WHERE WHAT IT READS IS OF BULK AT MOST 1048576: true; the input reads as it did. -/
def confStaysUptoRow : OpenClaim := { program := "ytkfaahjcncpmhaa", sum := "ef3732c4544179dea2b90f9e2f57556fe02abb73a3390a0db2ac3e2af50dfa2f", func := "heartwood/heartwoodlaw17.ConfStays", spec := "confStays", unfollowed := true, recurses := true, plainKeys := false, apart := false, narrowed := true }
def ConfStaysUptoSaid : Prop := confStaysUptoRow.holds Try.pinned (OpenSpec.upto confStaysSpec)

/-- 'heartwoodlaw14.EntryLogs', WHERE WHAT IT READS IS OF BULK AT MOST 1048576: true; the input reads as it did. -/
def entryLogsUptoRow : OpenClaim := { program := "ytkfaahjcncpmhaa", sum := "ef3732c4544179dea2b90f9e2f57556fe02abb73a3390a0db2ac3e2af50dfa2f", func := "heartwood/heartwoodlaw14.EntryLogs", spec := "entryLogs", unfollowed := true, recurses := true, plainKeys := false, apart := false, narrowed := true }
def EntryLogsUptoSaid : Prop := entryLogsUptoRow.holds Try.pinned (OpenSpec.upto entryLogsSpec)

/-- 'heartwoodlaw14.EntryReads', WHERE WHAT IT READS IS OF BULK AT MOST 1048576: true; the input reads as it did. -/
def entryReadsUptoRow : OpenClaim := { program := "ytkfaahjcncpmhaa", sum := "ef3732c4544179dea2b90f9e2f57556fe02abb73a3390a0db2ac3e2af50dfa2f", func := "heartwood/heartwoodlaw14.EntryReads", spec := "entryReads", unfollowed := true, recurses := true, plainKeys := false, apart := false, narrowed := true }
def EntryReadsUptoSaid : Prop := entryReadsUptoRow.holds Try.pinned (OpenSpec.upto entryReadsSpec)

/-- 'heartwoodlaw14.EntryWrites', WHERE WHAT IT READS IS OF BULK AT MOST 1048576: true; the input reads as it did. -/
def entryWritesUptoRow : OpenClaim := { program := "ytkfaahjcncpmhaa", sum := "ef3732c4544179dea2b90f9e2f57556fe02abb73a3390a0db2ac3e2af50dfa2f", func := "heartwood/heartwoodlaw14.EntryWrites", spec := "entryWrites", unfollowed := true, recurses := true, loops := true, plainKeys := false, apart := false, narrowed := true }
def EntryWritesUptoSaid : Prop := entryWritesUptoRow.holds Try.pinned (OpenSpec.upto entryWritesSpec)

/-- 'heartwoodlaw14.EntryStays', WHERE WHAT IT READS IS OF BULK AT MOST 1048576: true; the input reads as it did. -/
def entryStaysUptoRow : OpenClaim := { program := "ytkfaahjcncpmhaa", sum := "ef3732c4544179dea2b90f9e2f57556fe02abb73a3390a0db2ac3e2af50dfa2f", func := "heartwood/heartwoodlaw14.EntryStays", spec := "entryStays", unfollowed := true, recurses := true, loops := true, plainKeys := false, apart := false, narrowed := true }
def EntryStaysUptoSaid : Prop := entryStaysUptoRow.holds Try.pinned (OpenSpec.upto entryStaysSpec)

/-- 'heartwoodlaw14.EntryBack', WHERE WHAT IT READS IS OF BULK AT MOST 1048576: true; the input reads as it did. -/
def entryBackUptoRow : OpenClaim := { program := "ytkfaahjcncpmhaa", sum := "ef3732c4544179dea2b90f9e2f57556fe02abb73a3390a0db2ac3e2af50dfa2f", func := "heartwood/heartwoodlaw14.EntryBack", spec := "entryBack", unfollowed := true, recurses := true, loops := true, plainKeys := false, apart := false, narrowed := true }
def EntryBackUptoSaid : Prop := entryBackUptoRow.holds Try.pinned (OpenSpec.upto entryBackSpec)

/-- 'heartwoodlaw21.NetFull', WHERE WHAT IT READS IS OF BULK AT MOST 1048576: true; the input reads as it did. -/
def netFullUptoRow : OpenClaim := { program := "ytkfaahjcncpmhaa", sum := "ef3732c4544179dea2b90f9e2f57556fe02abb73a3390a0db2ac3e2af50dfa2f", func := "heartwood/heartwoodlaw21.NetFull", spec := "netFull", unfollowed := true, recurses := true, plainKeys := false, apart := false, narrowed := true }
def NetFullUptoSaid : Prop := netFullUptoRow.holds Try.pinned (OpenSpec.upto netFullSpec)

/-- 'heartwoodlaw21.NetPlays', WHERE WHAT IT READS IS OF BULK AT MOST 1048576: true; the input reads as it did. -/
def netPlaysUptoRow : OpenClaim := { program := "ytkfaahjcncpmhaa", sum := "ef3732c4544179dea2b90f9e2f57556fe02abb73a3390a0db2ac3e2af50dfa2f", func := "heartwood/heartwoodlaw21.NetPlays", spec := "netPlays", unfollowed := true, recurses := true, loops := true, plainKeys := false, apart := false, narrowed := true }
def NetPlaysUptoSaid : Prop := netPlaysUptoRow.holds Try.pinned (OpenSpec.upto netPlaysSpec)

end Rows
end Go.Proofs.Ytkfaahjcncpmhaa
