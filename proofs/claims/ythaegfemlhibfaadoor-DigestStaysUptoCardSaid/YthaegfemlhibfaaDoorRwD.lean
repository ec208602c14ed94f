/-
  What all rows of the seat share; the tables that are laid.
-/
import Derived.Test.YthaegfemlhibfaaDoorOk
import Derived.Test.YthaegfemlhibfaaDoorEvE
import Derived.Test.YthaegfemlhibfaaDoorRows
import Derived.Test.YthaegfemlhibfaaDoorCards
import Derived.Test.YthaegfemlhibfaaDoorTie
import Derived.WalkKit
import Derived.ProofKit
import Derived.OpenShut
import Derived.Deep.DeepHandedRow
import Derived.Lib.LaidTab
import Derived.LaidSub
set_option linter.unusedSimpArgs false
set_option linter.unusedVariables false
set_option maxRecDepth 200000
set_option maxHeartbeats 4000000
namespace Go.Proofs.YthaegfemlhibfaaDoor
open Go.Ev

open Go.ChangeShapes Go.WideShapes Go.ChangeAt Go.RowKit
theorem own : ownKnob Tryd.prog.godebug = none := by kernel_rfl
theorem laidOut : laidOutB Tryd.prog = true := by kernel_rfl
mutual
theorem bulk_eq {H : Type} : ∀ d : DataW H, Rows.uptoBulk d = bulkD d
  | .lit l => by cases l <;> simp [Rows.uptoBulk, bulkD]
  | .nil => by simp [Rows.uptoBulk, bulkD]
  | .ptr d => by simp [Rows.uptoBulk, bulkD, bulk_eq d]
  | .slice e s => by simp [Rows.uptoBulk, bulkD, bulks_eq e, bulks_eq s]
  | .agg p => by simp [Rows.uptoBulk, bulkD, bulks_eq p]
  | .iface _ d => by simp [Rows.uptoBulk, bulkD, bulk_eq d]
  | .map e => by simp [Rows.uptoBulk, bulkD, bulkEs_eq e]
  | .held _ => by simp [Rows.uptoBulk, bulkD]
theorem bulks_eq {H : Type} : ∀ l : List (DataW H), Rows.uptoBulkAll l = bulkDs l
  | [] => by simp [Rows.uptoBulkAll, bulkDs]
  | d :: r => by simp [Rows.uptoBulkAll, bulkDs, bulk_eq d, bulks_eq r]
theorem bulkEs_eq {H : Type} : ∀ l : List (Lit × DataW H), Rows.uptoBulkEntries l = bulkEs l
  | [] => by simp [Rows.uptoBulkEntries, bulkEs]
  | (x, d) :: r => by
    simp only [Rows.uptoBulkEntries, bulkEs, bulkEs_eq r]
    cases x <;> simp [Rows.uptoBulkEntry, bulkE, bulk_eq d]
end
theorem small_le {H : Type} {ds : List (DataW H)} (h : Rows.uptoSmall H (ds ++ []) = true) : bulkDs ds ≤ 1048576 := by
  have h1 : Rows.uptoBulkAll (ds ++ []) ≤ 1048576 := of_decide_eq_true h
  rwa [List.append_nil, bulks_eq] at h1
theorem list8 (l : List Int) (h : l.length = 8) : ∃ a b c d e f g i, l = [a, b, c, d, e, f, g, i] := by
  match l, h with
  | [a, b, c, d, e, f, g, i], _ => exact ⟨a, b, c, d, e, f, g, i, rfl⟩
theorem gK_named : Tryd.prog.globalNamed "heartwood/sha.constants" = some 1 := by kernel_rfl
theorem gH_named : Tryd.prog.globalNamed "heartwood/sha.first" = some 0 := by kernel_rfl
theorem laid_two : ([("heartwood/sha.constants", Rows.laid_heartwood_sha_constants), ("heartwood/sha.first", Rows.laid_heartwood_sha_first)] : List (String × DataW Unit)).filter (fun x => x.1 == "heartwood/sha.first") = [("heartwood/sha.first", Rows.laid_heartwood_sha_first)] := by kernel_rfl
theorem tabK_is {W : World} (h : laidMetH Tryd.prog [("heartwood/sha.constants", Rows.laid_heartwood_sha_constants), ("heartwood/sha.first", Rows.laid_heartwood_sha_first)] W) : Lib.TabIs Tryd.prog W "heartwood/sha.constants" .u32 tabK :=
  Lib.tabIs_of_head (rest := [("heartwood/sha.first", Rows.laid_heartwood_sha_first)]) (t := 52) (e := 39) (n := 64) gK_named (by kernel_rfl) (by kernel_rfl) (by kernel_rfl) (by kernel_rfl) (by kernel_rfl) h
theorem tabH_is {W : World} (h : laidMetH Tryd.prog [("heartwood/sha.constants", Rows.laid_heartwood_sha_constants), ("heartwood/sha.first", Rows.laid_heartwood_sha_first)] W) : Lib.TabIs Tryd.prog W "heartwood/sha.first" .u32 tabH := by
  have h2 := laidMet.filter (fun x => x.1 == "heartwood/sha.first") (l := [("heartwood/sha.constants", Rows.laid_heartwood_sha_constants), ("heartwood/sha.first", Rows.laid_heartwood_sha_first)]) h
  rw [laid_two] at h2
  exact Lib.tabIs_of_head (rest := []) (t := 40) (e := 39) (n := 8) gH_named (by kernel_rfl) (by kernel_rfl) (by kernel_rfl) (by kernel_rfl) (by kernel_rfl) h2
theorem glob_ok {W : World} (h : laidMetH Tryd.prog [("heartwood/sha.constants", Rows.laid_heartwood_sha_constants), ("heartwood/sha.first", Rows.laid_heartwood_sha_first)] W) : GlobOk G0 W := fun g j c hc => by
  by_cases h0 : g = 1
  · subst h0
    exact cells_of_tab (tabK_is h) gK_named hc
  · by_cases h1 : g = 0
    · subst h1
      exact cells_of_tab (tabH_is h) gH_named hc
    · simp only [G0, h0, h1, if_false] at hc
      simp at hc
/-- A world for the witness. -/
noncomputable def laidWorld0 (os : Os) : World :=
  { World.holding Tryd.prog os ⟨#[], #[], []⟩ with heap := (World.holding Tryd.prog os ⟨#[], #[], []⟩).heap.modify 1 fun
      | .cells _ t frozen => .cells (tabK.map fun n => Value.int .u32 n).toArray t frozen
      | o => o }
noncomputable def laidWorld (os : Os) : World :=
  { laidWorld0 os with heap := (laidWorld0 os).heap.modify 0 fun
      | .cells _ t frozen => .cells (tabH.map fun n => Value.int .u32 n).toArray t frozen
      | o => o }

end Go.Proofs.YthaegfemlhibfaaDoor
