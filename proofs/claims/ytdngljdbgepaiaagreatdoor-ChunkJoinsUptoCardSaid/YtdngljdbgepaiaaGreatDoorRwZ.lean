/-
  What the row needs; the tables that are laid, and the type of errors.
-/
import Derived.Test.YtdngljdbgepaiaaGreatDoorLJX
import Derived.LaidHandle
import Derived.Test.YtdngljdbgepaiaaGreatDoorRows
import Derived.Test.YtdngljdbgepaiaaGreatDoorCards
import Derived.Test.YtdngljdbgepaiaaGreatDoorTie
import Derived.WalkKit
import Derived.ProofKit
import Derived.OpenShut
import Derived.Deep.DeepHandedRow
import Derived.Lib.LaidTab
import Derived.LaidSub
set_option linter.unusedSimpArgs false
set_option linter.unusedVariables false
set_option maxRecDepth 200000
set_option maxHeartbeats 4000000
namespace Go.Proofs.YtdngljdbgepaiaaGreatDoor
open Go.Ev

open Go.ChangeShapes Go.WideShapes Go.ChangeAt Go.RowKit
theorem own : ownKnob Tryz.prog.godebug = none := by kernel_rfl
theorem laidOut : laidOutB Tryz.prog = true := by kernel_rfl
mutual
theorem bulk_eq {H : Type} : ∀ d : DataW H, Rows.uptoBulk d = bulkD d
  | .lit l => by cases l <;> simp [Rows.uptoBulk, bulkD]
  | .nil => by simp [Rows.uptoBulk, bulkD]
  | .ptr d => by simp [Rows.uptoBulk, bulkD, bulk_eq d]
  | .slice e s => by simp [Rows.uptoBulk, bulkD, bulks_eq e, bulks_eq s]
  | .agg p => by simp [Rows.uptoBulk, bulkD, bulks_eq p]
  | .iface _ d => by simp [Rows.uptoBulk, bulkD, bulk_eq d]
  | .map e => by simp [Rows.uptoBulk, bulkD, bulkEs_eq e]
  | .held _ => by simp [Rows.uptoBulk, bulkD]
theorem bulks_eq {H : Type} : ∀ l : List (DataW H), Rows.uptoBulkAll l = bulkDs l
  | [] => by simp [Rows.uptoBulkAll, bulkDs]
  | d :: r => by simp [Rows.uptoBulkAll, bulkDs, bulk_eq d, bulks_eq r]
theorem bulkEs_eq {H : Type} : ∀ l : List (Lit × DataW H), Rows.uptoBulkEntries l = bulkEs l
  | [] => by simp [Rows.uptoBulkEntries, bulkEs]
  | (x, d) :: r => by
    simp only [Rows.uptoBulkEntries, bulkEs, bulkEs_eq r]
    cases x <;> simp [Rows.uptoBulkEntry, bulkE, bulk_eq d]
end
theorem small_le {H : Type} {ds : List (DataW H)} (h : Rows.uptoSmall H (ds ++ []) = true) : bulkDs ds ≤ 1048576 := by
  have h1 : Rows.uptoBulkAll (ds ++ []) ≤ 1048576 := of_decide_eq_true h
  rwa [List.append_nil, bulks_eq] at h1
theorem gK_named : Tryz.prog.globalNamed "heartwood/sha.constants" = some 2 := by kernel_rfl
theorem gH_named : Tryz.prog.globalNamed "heartwood/sha.first" = some 1 := by kernel_rfl
theorem gE_named : Tryz.prog.globalNamed "errors.errorType" = some 0 := by kernel_rfl
theorem rt_named : (Tryz.prog.cutTypes.find? (·.1 == "internal/reflectlite.rtype")).map (·.2) = some 105 := by kernel_rfl
theorem oneRow : ((List.range Tryz.prog.types.size).filter fun t => Tryz.prog.rowNamed t [101, 114, 114, 111, 114]) = [30] := by kernel_rfl
/-- What the row lists. -/
abbrev LD : List (String × DataW Unit) := [("heartwood/sha.constants", Rows.laid_heartwood_sha_constants), ("heartwood/sha.first", Rows.laid_heartwood_sha_first)]
abbrev LE : List (String × DataW Unit) := [("errors.errorType", Rows.laid_errors_errorType)]
abbrev LA : List (String × DataW Unit) := [("errors.errorType", Rows.laid_errors_errorType), ("heartwood/sha.constants", Rows.laid_heartwood_sha_constants), ("heartwood/sha.first", Rows.laid_heartwood_sha_first)]
theorem split_h : (LA.filter fun x => x.2.handleName?.isSome) = LE := by kernel_rfl
theorem split_d : (LA.filter fun x => x.2.handleName?.isNone) = LD := by kernel_rfl
theorem laid_parts {W : World} (h : laidMetH Tryz.prog LA W) : laidMet Tryz.prog LD W ∧ handlesMet Tryz.prog LE W := by
  unfold laidMetH at h
  rw [split_h, split_d] at h
  exact h
theorem laid_two : LD.filter (fun x => x.1 == "heartwood/sha.first") = [("heartwood/sha.first", Rows.laid_heartwood_sha_first)] := by kernel_rfl
theorem tabK_is {W : World} (h : laidMet Tryz.prog LD W) : Lib.TabIs Tryz.prog W "heartwood/sha.constants" .u32 tabK :=
  Lib.tabIs_of_head (rest := [("heartwood/sha.first", Rows.laid_heartwood_sha_first)]) (t := 139) (e := 36) (n := 64) gK_named (by kernel_rfl) (by kernel_rfl) (by kernel_rfl) (by kernel_rfl) (by kernel_rfl) h
theorem tabH_is {W : World} (h : laidMet Tryz.prog LD W) : Lib.TabIs Tryz.prog W "heartwood/sha.first" .u32 tabH := by
  have h2 := laidMet.filter (fun x => x.1 == "heartwood/sha.first") (l := LD) h
  rw [laid_two] at h2
  exact Lib.tabIs_of_head (rest := []) (t := 37) (e := 36) (n := 8) gH_named (by kernel_rfl) (by kernel_rfl) (by kernel_rfl) (by kernel_rfl) (by kernel_rfl) h2
/-- The one cell of the type of errors. -/
theorem typeE_is {W : World} (h : handlesMet Tryz.prog LE W) : W.cell? ⟨0, 0, none⟩ = some (.iface 105 (.agg #[.pointer (some ⟨3, 30, none⟩)])) := by
  obtain ⟨name, u, ty, e1, e2, e3, e4, e5⟩ := h _ (List.mem_singleton.2 rfl)
  have en : name = [101, 114, 114, 111, 114] := (Option.some.inj e1).symm
  subst en
  obtain rfl := Option.some.inj (rt_named.symm.trans e2)
  have hm : ty ∈ (List.range Tryz.prog.types.size).filter fun t => Tryz.prog.rowNamed t [101, 114, 114, 111, 114] := List.mem_filter.2 ⟨List.mem_range.2 e3, e4⟩
  rw [oneRow] at hm
  obtain rfl := List.mem_singleton.1 hm
  have hh : typeHandle Tryz.prog 30 = .pointer (some ⟨3, 30, none⟩) := by kernel_rfl
  rw [hh] at e5
  simpa using World.var?_cell gE_named e5 0
theorem glob_ok {W : World} (h : laidMetH Tryz.prog LA W) : GlobOk G0 W := fun g j c hc => by
  obtain ⟨hd, he⟩ := laid_parts h
  by_cases h3 : g = 0
  · subst h3
    change gE[j]? = some c at hc
    match j, hc with
    | 0, hc =>
      simp only [gE, List.getElem?_cons_zero, Option.some.injEq] at hc
      subst hc
      have h1 := typeE_is he
      exact ⟨(cell_lt h1).1, _, h1, Rep.sc _ (by rfl)⟩
    | j + 1, hc => simp [gE] at hc
  · by_cases h0 : g = 2
    · subst h0
      exact cells_of_tab (tabK_is hd) gK_named hc
    · by_cases h1 : g = 1
      · subst h1
        exact cells_of_tab (tabH_is hd) gH_named hc
      · simp only [G0, h0, h1, h3, if_false] at hc
        simp at hc
/-- A world for the witness. -/
noncomputable def laidWorld0 (os : Os) : World :=
  { World.holding Tryz.prog os ⟨#[], #[], []⟩ with heap := (World.holding Tryz.prog os ⟨#[], #[], []⟩).heap.modify 2 fun
      | .cells _ t frozen => .cells (tabK.map fun n => Value.int .u32 n).toArray t frozen
      | o => o }
noncomputable def laidWorld1 (os : Os) : World :=
  { laidWorld0 os with heap := (laidWorld0 os).heap.modify 1 fun
      | .cells _ t frozen => .cells (tabH.map fun n => Value.int .u32 n).toArray t frozen
      | o => o }
noncomputable def laidWorld (os : Os) : World :=
  { laidWorld1 os with heap := (laidWorld1 os).heap.modify 0 fun
      | .cells _ t frozen => .cells #[.iface 105 (.agg #[.pointer (some ⟨3, 30, none⟩)])] t frozen
      | o => o }

end Go.Proofs.YtdngljdbgepaiaaGreatDoor
