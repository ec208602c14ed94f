/-
  Taking out, by the evaluator.
-/
import Derived.Test.YtfihodpdjpcpfaaLAvl5
import Derived.Test.YtfihodpdjpcpfaaLClone
set_option linter.unusedSimpArgs false
set_option linter.unusedVariables false
set_option maxRecDepth 200000
set_option maxHeartbeats 4000000
namespace Go.Proofs.Ytfihodpdjpcpfaa
open Go.Ev

theorem eT_nn : eT [T.no, T.no] = eT [B.n.t, B.n.t] := rfl
theorem avB_no : avT T.no = .agg [i64 0, .sl true [], .sl true [], .sl true [], .sl true []] := by
  simp only [avT, no_kind, no_key, no_value, no_digest, no_kids, eB_nil, eT_nil]
theorem cells_d1 {t : T} : t.cells.drop 1 = [.sl (eB t.key), .sl (eB t.value), .sl (eB t.digest), .sl (eT t.kids)] := by rw [cells_eq]; rfl
theorem cells_d2 {t : T} : t.cells.drop 2 = [.sl (eB t.value), .sl (eB t.digest), .sl (eT t.kids)] := by rw [cells_eq]; rfl
theorem cells_d4 {t : T} : t.cells.drop 4 = [.sl (eT t.kids)] := by rw [cells_eq]; rfl
attribute [go_sem] cells_d1 cells_d2 cells_d4
theorem isN_n : B.n.isN = true := rfl
theorem isN_d {l r : B} {k v : List UInt8} : ¬ (B.d l k v r).isN = true := by simp [B.isN]
abbrev oZ5 : Ev.Obj := .var [i64 0, .nilsl, .nilsl, .nilsl, .nilsl]
/-! ### The document's -/
theorem Bt_list : ∀ b : B, b.t.list.map (fun t => (t.key, t.value)) = b.list
  | .n => rfl
  | .d l k v r => by
    rw [list_two Bt_kids, List.map_append, List.map_cons, Bt_list l, Bt_list r]
    rfl
theorem Bt_list_len (b : B) : b.t.list.length = b.list.length := by rw [← Bt_list, List.length_map]
theorem least_t (b : B) (h : b.isN = false) : ∃ u q, b.t.list = u :: q ∧ u.key = b.least.1 ∧ u.value = b.least.2 := by
  obtain ⟨q, hq⟩ := least_list b h
  have := Bt_list b
  rw [hq] at this
  cases hl : b.t.list with
  | nil => rw [hl] at this; simp at this
  | cons u w =>
    rw [hl] at this
    simp only [List.map_cons, List.cons.injEq] at this
    exact ⟨u, w, rfl, by rw [← this.1], by rw [← this.1]⟩
end Go.Proofs.Ytfihodpdjpcpfaa
