/-
  Trees: their nodes.
-/
import Derived.Test.YtdngljdbgepaiaaGreatDoorLTree3
set_option linter.unusedSimpArgs false
set_option linter.unusedVariables false
set_option maxRecDepth 200000
set_option maxHeartbeats 4000000
namespace Go.Proofs.YtdngljdbgepaiaaGreatDoor
open Go.Ev

mutual
def T.list : T → List T
  | .mk k a b c l => match listL l with
    | x :: y :: _ => x ++ .mk k a b c l :: y
    | _ => []
def listL : List T → List (List T)
  | [] => []
  | t :: l => t.list :: listL l
end
theorem two_of {t : T} (h : t.formed = true) : t.kids = [] ∨ ∃ l r, t.kids = [l, r] ∧ l.formed = true ∧ r.formed = true := by
  have h1 := h
  rw [formed_eq] at h1
  simp only [Bool.and_eq_true, decide_eq_true_eq] at h1
  have h2 := h1.1
  have hlen : t.kids.length = 0 ∨ t.kids.length = 2 := by unfold okT at h2; omega
  rcases hlen with hl | hl
  · exact .inl (List.eq_nil_of_length_eq_zero hl)
  · match hk : t.kids, hl with
    | [l, r], _ => exact .inr ⟨l, r, rfl, formed_kid h (by rw [hk]; simp), formed_kid h (by rw [hk]; simp)⟩
/-- To show something of formed trees. -/
theorem F_ind {P : T → Prop} (h0 : ∀ t : T, t.formed = true → t.kids = [] → P t) (h2 : ∀ t l r : T, t.formed = true → t.kids = [l, r] → l.formed = true → r.formed = true → P l → P r → P t) : ∀ t : T, t.formed = true → P t := T_ind fun t ih hf => by
  rcases two_of hf with h | ⟨l, r, h, hl, hr⟩
  · exact h0 t hf h
  · exact h2 t l r hf h hl hr (ih l (by rw [h]; simp) hl) (ih r (by rw [h]; simp) hr)
theorem size_two {t l r : T} (h : t.kids = [l, r]) : t.size = 1 + t.key.length + t.value.length + t.digest.length + (l.size + r.size) := by
  rw [size_eq, h]; simp only [sizeL]; omega
theorem cells_no : [C.sc (.int .i64 0), .sl [], .sl [], .sl [], .sl []] = T.no.cells := by simp only [cells_eq, T.no, T.kind, T.key, T.value, T.digest, T.kids, eT_nil, eB_nil]
theorem eT_last {l : List T} {t : T} : (eT (l ++ [.no])).set l.length t.cells = eT (l ++ [t]) := by
  simp [eT_map]
theorem eT_no : (eT [T.no]).set 0 T.no.cells = eT [T.no] := by simp [eT_map]
theorem cells_drop5 {t : T} : t.cells.drop 5 = [] := by rw [cells_eq]; rfl
theorem eT_emp {t : T} {l : List T} : (eT (t :: l)).isEmpty = false := by simp [eT]
abbrev rowT (l : List T) : Ev.Obj := .row ty_api_Tree 5 true false (eT l)
end Go.Proofs.YtdngljdbgepaiaaGreatDoor
