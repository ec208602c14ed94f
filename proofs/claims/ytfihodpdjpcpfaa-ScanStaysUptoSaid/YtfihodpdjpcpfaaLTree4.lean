/-
  Trees: their nodes.
-/
import Derived.Test.YtfihodpdjpcpfaaLTree3
set_option linter.unusedSimpArgs false
set_option linter.unusedVariables false
set_option maxRecDepth 200000
set_option maxHeartbeats 4000000
namespace Go.Proofs.Ytfihodpdjpcpfaa
open Go.Ev

mutual
def T.list : T → List T
  | .mk k a b c l => match listL l with
    | x :: y :: _ => x ++ .mk k a b c l :: y
    | _ => []
def listL : List T → List (List T)
  | [] => []
  | t :: l => t.list :: listL l
end
theorem list_nil {t : T} (h : t.kids = []) : t.list = [] := by
  cases t with
  | mk k a b c l =>
    simp only [T.kids] at h
    subst h
    simp only [T.list, listL]
theorem list_two {t l r : T} (h : t.kids = [l, r]) : t.list = l.list ++ t :: r.list := by
  cases t with
  | mk k a b c kk =>
    simp only [T.kids] at h
    subst h
    simp only [T.list, listL]
theorem two_of {t : T} (h : t.formed = true) : t.kids = [] ∨ ∃ l r, t.kids = [l, r] ∧ l.formed = true ∧ r.formed = true := by
  have h1 := h
  rw [formed_eq] at h1
  simp only [Bool.and_eq_true, decide_eq_true_eq] at h1
  have h2 := h1.1
  have hlen : t.kids.length = 0 ∨ t.kids.length = 2 := by unfold okT at h2; omega
  rcases hlen with hl | hl
  · exact .inl (List.eq_nil_of_length_eq_zero hl)
  · match hk : t.kids, hl with
    | [l, r], _ => exact .inr ⟨l, r, rfl, formed_kid h (by rw [hk]; simp), formed_kid h (by rw [hk]; simp)⟩
/-- To show something of formed trees. -/
theorem F_ind {P : T → Prop} (h0 : ∀ t : T, t.formed = true → t.kids = [] → P t) (h2 : ∀ t l r : T, t.formed = true → t.kids = [l, r] → l.formed = true → r.formed = true → P l → P r → P t) : ∀ t : T, t.formed = true → P t := T_ind fun t ih hf => by
  rcases two_of hf with h | ⟨l, r, h, hl, hr⟩
  · exact h0 t hf h
  · exact h2 t l r hf h hl hr (ih l (by rw [h]; simp) hl) (ih r (by rw [h]; simp) hr)
theorem size_two {t l r : T} (h : t.kids = [l, r]) : t.size = 1 + t.key.length + t.value.length + t.digest.length + (l.size + r.size) := by
  rw [size_eq, h]; simp only [sizeL]; omega
theorem list_size : ∀ t : T, t.formed = true → t.list.length ≤ t.size := F_ind (fun t _ h => by rw [list_nil h]; simp) fun t l r _ h _ _ h1 h2 => by
  rw [list_two h, size_two h]
  simp only [List.length_append, List.length_cons]
  omega
theorem cells_no : [C.sc (.int .i64 0), .sl [], .sl [], .sl [], .sl []] = T.no.cells := by simp only [cells_eq, T.no, T.kind, T.key, T.value, T.digest, T.kids, eT_nil, eB_nil]
theorem eT_last {l : List T} {t : T} : (eT (l ++ [.no])).set l.length t.cells = eT (l ++ [t]) := by
  simp [eT_map]
theorem eT_no : (eT [T.no]).set 0 T.no.cells = eT [T.no] := by simp [eT_map]
theorem cells_drop5 {t : T} : t.cells.drop 5 = [] := by rw [cells_eq]; rfl
theorem eT_emp {t : T} {l : List T} : (eT (t :: l)).isEmpty = false := by simp [eT]
abbrev rowT (l : List T) : Ev.Obj := .row ty_api_Tree 5 true false (eT l)
abbrev vW : Ev.Obj := .var [.clos n_tree_List_1 [.ptr 0 0, .ptr 1 0]]
def insL : List T → List Ev.Obj
  | [] => [vW, .var [.nilsl]]
  | t :: l => [vW, .var [.row 2 (l.length + 1)], rowT (t :: l)]
theorem insL_ne {l : List T} (h : l ≠ []) : insL l = [vW, .var [.row 2 l.length], rowT l] := by cases l with | nil => exact absurd rfl h | cons b l => rfl
theorem walk_ev : ∀ t : T, t.formed = true → ∀ acc : List T, acc.length + t.size ≤ 2097152 → Ev tab G0 n_tree_List_1 [avT t, .ptr 0 0, .ptr 1 0] (insL acc) = some ([], insL (acc ++ t.list)) := F_ind
  (fun t _ h acc hb => by
    rw [list_nil h, List.append_nil]
    cases acc with
    | nil =>
      refine Ev_run t_tree_List_1 rfl rfl ?_
      simp (maxSteps := 1000000) (disch := first | omega | (simp only [List.length_cons, List.length_nil, List.length_append, List.length_map, List.length_take, List.length_drop]; omega)) only [go_sem, ↓reduceIte, Nat.reduceSub, Nat.reduceAdd, Nat.reduceMul, Nat.reduceLeDiff, Nat.reduceLT, Nat.reduceEqDiff, Nat.reduceBEq, Int.reduceLE, Int.reduceLT, Int.reduceEq, Int.reduceNeg, Int.reduceAdd, Int.reduceSub, Int.reduceMul, Int.reduceToNat, i_tree_List_1, insL, h]
    | cons a acc =>
      refine Ev_run t_tree_List_1 rfl rfl ?_
      simp (maxSteps := 1000000) (disch := first | omega | (simp only [List.length_cons, List.length_nil, List.length_append, List.length_map, List.length_take, List.length_drop]; omega)) only [go_sem, ↓reduceIte, Nat.reduceSub, Nat.reduceAdd, Nat.reduceMul, Nat.reduceLeDiff, Nat.reduceLT, Nat.reduceEqDiff, Nat.reduceBEq, Int.reduceLE, Int.reduceLT, Int.reduceEq, Int.reduceNeg, Int.reduceAdd, Int.reduceSub, Int.reduceMul, Int.reduceToNat, i_tree_List_1, insL, h])
  fun t l r hf h hl hr ih1 ih2 acc hb => by
    have hs := size_two h
    have hll := list_size l hl
    have hlr := list_size r hr
    have h1 := ih1 acc (by omega)
    have h2 := ih2 ((acc ++ l.list) ++ [t]) (by simp; omega)
    have e1 : acc ++ t.list = ((acc ++ l.list) ++ [t]) ++ r.list := by rw [list_two h]; simp
    rw [e1]
    have hcell : [C.sc (.int .i64 t.kind), .sl (eB t.key), .sl (eB t.value), .sl (eB t.digest), .sl (eT [l, r])] = t.cells := by rw [cells_eq, h]
    have hlen : (acc ++ l.list).length ≤ 2097152 := by simp; omega
    have hlen3 : (((acc ++ l.list) ++ [t]) ++ r.list).length ≤ 2097152 := by simp; omega
    have hne : ((acc ++ l.list) ++ [t]) ++ r.list ≠ [] := by simp
    have hlen2 : ((acc ++ l.list) ++ [t]).length = (acc ++ l.list).length + 1 := by simp only [List.length_append, List.length_cons, List.length_nil]
    have el := eT_last (l := acc ++ l.list) (t := t)
    have ea := eT_app (a := acc ++ l.list) (b := [.no])
    have en : ((acc ++ l.list) ++ [T.no]).length = (acc ++ l.list).length + 1 := by simp only [List.length_append, List.length_cons, List.length_nil]
    rw [insL_ne (by simp), insL_ne hne, hlen2] at h2
    rw [insL_ne hne]
    generalize ((acc ++ l.list) ++ [t]) ++ r.list = a3 at *
    by_cases ha1 : acc ++ l.list = []
    · have ha : acc = [] := (List.append_eq_nil_iff.1 ha1).1
      subst ha
      rw [ha1] at h1 h2 el ea en
      simp only [List.nil_append, List.length_nil, Nat.zero_add] at h2 el ea en
      simp only [insL] at h1
      refine Ev_run t_tree_List_1 rfl rfl ?_
      simp (maxSteps := 1000000) (disch := first | omega | (simp only [List.length_cons, List.length_nil, List.length_append, List.length_map, List.length_take, List.length_drop]; omega)) only [go_sem, ↓reduceIte, Nat.reduceSub, Nat.reduceAdd, Nat.reduceMul, Nat.reduceLeDiff, Nat.reduceLT, Nat.reduceEqDiff, Nat.reduceBEq, Int.reduceLE, Int.reduceLT, Int.reduceEq, Int.reduceNeg, Int.reduceAdd, Int.reduceSub, Int.reduceMul, Int.reduceToNat, i_tree_List_1, insL, h, h1, h2, cells_no, eT_one, eT_no, cells_drop5, hcell, eT_emp, el, ea, en, lt_tree_List_1]
    · rw [insL_ne ha1] at h1
      generalize acc ++ l.list = a1 at *
      generalize a1 ++ [t] = a2 at *
      generalize a1 ++ [T.no] = a4 at *
      cases acc with
      | nil =>
        simp only [insL] at h1
        refine Ev_run t_tree_List_1 rfl rfl ?_
        simp (maxSteps := 1000000) (disch := first | omega | (simp only [List.length_cons, List.length_nil, List.length_append, List.length_map, List.length_take, List.length_drop]; omega)) only [go_sem, ↓reduceIte, Nat.reduceSub, Nat.reduceAdd, Nat.reduceMul, Nat.reduceLeDiff, Nat.reduceLT, Nat.reduceEqDiff, Nat.reduceBEq, Int.reduceLE, Int.reduceLT, Int.reduceEq, Int.reduceNeg, Int.reduceAdd, Int.reduceSub, Int.reduceMul, Int.reduceToNat, i_tree_List_1, insL, h, h1, h2, cells_no, eT_one, eT_no, cells_drop5, hcell, eT_emp, el, ea, en, hlen2, lt_tree_List_1]
      | cons a acc =>
        simp only [insL] at h1
        refine Ev_run t_tree_List_1 rfl rfl ?_
        simp (maxSteps := 1000000) (disch := first | omega | (simp only [List.length_cons, List.length_nil, List.length_append, List.length_map, List.length_take, List.length_drop]; omega)) only [go_sem, ↓reduceIte, Nat.reduceSub, Nat.reduceAdd, Nat.reduceMul, Nat.reduceLeDiff, Nat.reduceLT, Nat.reduceEqDiff, Nat.reduceBEq, Int.reduceLE, Int.reduceLT, Int.reduceEq, Int.reduceNeg, Int.reduceAdd, Int.reduceSub, Int.reduceMul, Int.reduceToNat, i_tree_List_1, insL, h, h1, h2, cells_no, eT_one, eT_no, cells_drop5, hcell, eT_emp, el, ea, en, hlen2, lt_tree_List_1]

end Go.Proofs.Ytfihodpdjpcpfaa
