/-
  What all rows of the seat share.
-/
import Derived.Test.YtfihodpdjpcpfaaOk
import Derived.Test.YtfihodpdjpcpfaaEvE
import Derived.Test.YtfihodpdjpcpfaaRows
set_option linter.unusedSimpArgs false
set_option linter.unusedVariables false
set_option maxRecDepth 200000
set_option maxHeartbeats 4000000
namespace Go.Proofs.Ytfihodpdjpcpfaa
open Go.Ev

open Go.ChangeShapes Go.WideShapes Go.ChangeAt Go.RowKit
theorem own : ownKnob Try.prog.godebug = none := by kernel_rfl
theorem laidOut : laidOutB Try.prog = true := by kernel_rfl
mutual
theorem bulk_eq {H : Type} : ∀ d : DataW H, Rows.uptoBulk d = bulkD d
  | .lit l => by cases l <;> simp [Rows.uptoBulk, bulkD]
  | .nil => by simp [Rows.uptoBulk, bulkD]
  | .ptr d => by simp [Rows.uptoBulk, bulkD, bulk_eq d]
  | .slice e s => by simp [Rows.uptoBulk, bulkD, bulks_eq e, bulks_eq s]
  | .agg p => by simp [Rows.uptoBulk, bulkD, bulks_eq p]
  | .iface _ d => by simp [Rows.uptoBulk, bulkD, bulk_eq d]
  | .map e => by simp [Rows.uptoBulk, bulkD, bulkEs_eq e]
  | .held _ => by simp [Rows.uptoBulk, bulkD]
theorem bulks_eq {H : Type} : ∀ l : List (DataW H), Rows.uptoBulkAll l = bulkDs l
  | [] => by simp [Rows.uptoBulkAll, bulkDs]
  | d :: r => by simp [Rows.uptoBulkAll, bulkDs, bulk_eq d, bulks_eq r]
theorem bulkEs_eq {H : Type} : ∀ l : List (Lit × DataW H), Rows.uptoBulkEntries l = bulkEs l
  | [] => by simp [Rows.uptoBulkEntries, bulkEs]
  | (x, d) :: r => by
    simp only [Rows.uptoBulkEntries, bulkEs, bulkEs_eq r]
    cases x <;> simp [Rows.uptoBulkEntry, bulkE, bulk_eq d]
end
theorem small_le {H : Type} {ds : List (DataW H)} (h : Rows.uptoSmall H (ds ++ []) = true) : bulkDs ds ≤ 1048576 := by
  have h1 : Rows.uptoBulkAll (ds ++ []) ≤ 1048576 := of_decide_eq_true h
  rwa [List.append_nil, bulks_eq] at h1


end Go.Proofs.Ytfihodpdjpcpfaa
