/-
  Trees: lists, depths, likeness.
-/
import Derived.Test.YtebiajdkgpcidaaLTree4
set_option linter.unusedSimpArgs false
set_option linter.unusedVariables false
set_option maxRecDepth 200000
set_option maxHeartbeats 4000000
namespace Go.Proofs.Ytebiajdkgpcidaa
open Go.Ev

theorem tree_List_ev (t : T) (hs : t.size ≤ 1048576) (hc : t.chk = 0) : Ev tab G0 n_tree_List [avT t] [] = some ([.sl true (eT t.list)], []) := by
  have h1 := tree_Check_ev t hs
  rw [hc, errV, if_pos rfl] at h1
  have h2 := walk_ev t (chk_formed hc) [] (by simp; omega)
  rw [List.nil_append] at h2
  refine Ev_run t_tree_List rfl rfl ?_
  by_cases hl : t.list = []
  · rw [hl] at h2 ⊢
    simp only [insL] at h2
    simp (maxSteps := 1000000) (disch := first | omega | (simp only [List.length_cons, List.length_nil, List.length_append, List.length_map, List.length_take, List.length_drop]; omega)) only [go_sem, ↓reduceIte, Nat.reduceSub, Nat.reduceAdd, Nat.reduceMul, Nat.reduceLeDiff, Nat.reduceLT, Nat.reduceEqDiff, Nat.reduceBEq, Int.reduceLE, Int.reduceLT, Int.reduceEq, Int.reduceNeg, Int.reduceAdd, Int.reduceSub, Int.reduceMul, Int.reduceToNat, i_tree_List, h1, h2, eT_nil]
  · rw [insL_ne hl] at h2
    simp only [insL] at h2
    simp (maxSteps := 1000000) (disch := first | omega | (simp only [List.length_cons, List.length_nil, List.length_append, List.length_map, List.length_take, List.length_drop]; omega)) only [go_sem, ↓reduceIte, Nat.reduceSub, Nat.reduceAdd, Nat.reduceMul, Nat.reduceLeDiff, Nat.reduceLT, Nat.reduceEqDiff, Nat.reduceBEq, Int.reduceLE, Int.reduceLT, Int.reduceEq, Int.reduceNeg, Int.reduceAdd, Int.reduceSub, Int.reduceMul, Int.reduceToNat, i_tree_List, h1, h2]
theorem tree_List_bad (t : T) (hs : t.size ≤ 1048576) (hc : ¬ t.chk = 0) : Ev tab G0 n_tree_List [avT t] [] = some ([.sl true []], []) := by
  have h1 := tree_Check_ev t hs
  rw [errV, if_neg hc] at h1
  refine Ev_run t_tree_List rfl rfl ?_
  simp (maxSteps := 1000000) (disch := first | omega | (simp only [List.length_cons, List.length_nil, List.length_append, List.length_map, List.length_take, List.length_drop]; omega)) only [go_sem, ↓reduceIte, Nat.reduceSub, Nat.reduceAdd, Nat.reduceMul, Nat.reduceLeDiff, Nat.reduceLT, Nat.reduceEqDiff, Nat.reduceBEq, Int.reduceLE, Int.reduceLT, Int.reduceEq, Int.reduceNeg, Int.reduceAdd, Int.reduceSub, Int.reduceMul, Int.reduceToNat, i_tree_List, h1]
theorem ref04_List_ev : ∀ t : T, t.formed = true → t.size ≤ 1048576 → Ev tab G0 n_ref04_List [avT t] [] = some ([.sl true (eT t.list)], []) := F_ind
  (fun t _ h hb => by
    rw [list_nil h]
    refine Ev_run t_ref04_List rfl rfl ?_
    simp (maxSteps := 1000000) (disch := first | omega | (simp only [List.length_cons, List.length_nil, List.length_append, List.length_map, List.length_take, List.length_drop]; omega)) only [go_sem, ↓reduceIte, Nat.reduceSub, Nat.reduceAdd, Nat.reduceMul, Nat.reduceLeDiff, Nat.reduceLT, Nat.reduceEqDiff, Nat.reduceBEq, Int.reduceLE, Int.reduceLT, Int.reduceEq, Int.reduceNeg, Int.reduceAdd, Int.reduceSub, Int.reduceMul, Int.reduceToNat, i_ref04_List, h, eT_nil])
  fun t l r hf h hl hr ih1 ih2 hb => by
    have hs := size_two h
    have h1 := ih1 (by omega)
    have h2 := ih2 (by omega)
    have hll := list_size l hl
    have hlr := list_size r hr
    have hcell : [C.sc (.int .i64 t.kind), .sl (eB t.key), .sl (eB t.value), .sl (eB t.digest), .sl (eT [l, r])] = t.cells := by rw [cells_eq, h]
    rw [list_two h]
    refine Ev_run t_ref04_List rfl rfl ?_
    simp (maxSteps := 1000000) (disch := first | omega | (simp only [List.length_cons, List.length_nil, List.length_append, List.length_map, List.length_take, List.length_drop]; omega)) only [go_sem, ↓reduceIte, Nat.reduceSub, Nat.reduceAdd, Nat.reduceMul, Nat.reduceLeDiff, Nat.reduceLT, Nat.reduceEqDiff, Nat.reduceBEq, Int.reduceLE, Int.reduceLT, Int.reduceEq, Int.reduceNeg, Int.reduceAdd, Int.reduceSub, Int.reduceMul, Int.reduceToNat, i_ref04_List, h, h1, h2, hcell, eT_one, List.length_append]
/-! ### Depths -/
mutual
def T.depth : T → Int
  | .mk _ _ _ _ l => match depthL l with
    | x :: y :: _ => max x y + 1
    | _ => 0
def depthL : List T → List Int
  | [] => []
  | t :: l => t.depth :: depthL l
end
theorem depth_nil {t : T} (h : t.kids = []) : t.depth = 0 := by
  cases t with
  | mk k a b c l =>
    simp only [T.kids] at h
    subst h
    simp only [T.depth, depthL]
theorem depth_two {t l r : T} (h : t.kids = [l, r]) : t.depth = max l.depth r.depth + 1 := by
  cases t with
  | mk k a b c kk =>
    simp only [T.kids] at h
    subst h
    simp only [T.depth, depthL]
theorem depth_le : ∀ t : T, t.formed = true → 0 ≤ t.depth ∧ t.depth ≤ t.size := F_ind (fun t _ h => by rw [depth_nil h]; omega) fun t l r _ h _ _ h1 h2 => by
  rw [depth_two h, size_two h]
  omega
mutual
def T.bal : T → Bool
  | .mk _ _ _ _ l => match balL l, depthL l with
    | p :: q :: _, x :: y :: _ => p && q && decide (x - y ≤ 1) && decide (y - x ≤ 1)
    | _, _ => true
def balL : List T → List Bool
  | [] => []
  | t :: l => t.bal :: balL l
end
theorem bal_nil {t : T} (h : t.kids = []) : t.bal = true := by
  cases t with
  | mk k a b c l =>
    simp only [T.kids] at h
    subst h
    simp only [T.bal, balL, depthL]
theorem bal_two {t l r : T} (h : t.kids = [l, r]) : t.bal = (l.bal && r.bal && decide (l.depth - r.depth ≤ 1) && decide (r.depth - l.depth ≤ 1)) := by
  cases t with
  | mk k a b c kk =>
    simp only [T.kids] at h
    subst h
    simp only [T.bal, balL, depthL]
theorem avl_even_ev : ∀ t : T, t.formed = true → t.size ≤ 1048576 → Ev tab G0 n_avl_even [avT t] [] = some ([i64 t.depth, bo t.bal], []) := F_ind
  (fun t _ h hb => by
    rw [depth_nil h, bal_nil h]
    refine Ev_run t_avl_even rfl rfl ?_
    simp (maxSteps := 1000000) (disch := first | omega | (simp only [List.length_cons, List.length_nil, List.length_append, List.length_map, List.length_take, List.length_drop]; omega)) only [go_sem, ↓reduceIte, Nat.reduceSub, Nat.reduceAdd, Nat.reduceMul, Nat.reduceLeDiff, Nat.reduceLT, Nat.reduceEqDiff, Nat.reduceBEq, Int.reduceLE, Int.reduceLT, Int.reduceEq, Int.reduceNeg, Int.reduceAdd, Int.reduceSub, Int.reduceMul, Int.reduceToNat, i_avl_even, h])
  fun t l r hf h hl hr ih1 ih2 hb => by
    have hs := size_two h
    have h1 := ih1 (by omega)
    have h2 := ih2 (by omega)
    have d1 := depth_le l hl
    have d2 := depth_le r hr
    have e : (if l.depth < r.depth then r.depth else l.depth) = max l.depth r.depth := by split <;> omega
    rw [depth_two h, bal_two h]
    cases hp : l.bal
    · rw [hp] at h1
      simp only [Bool.false_and]
      refine Ev_run t_avl_even rfl rfl ?_
      simp (maxSteps := 1000000) (disch := first | omega | (simp only [List.length_cons, List.length_nil, List.length_append, List.length_map, List.length_take, List.length_drop]; omega)) only [go_sem, ↓reduceIte, Nat.reduceSub, Nat.reduceAdd, Nat.reduceMul, Nat.reduceLeDiff, Nat.reduceLT, Nat.reduceEqDiff, Nat.reduceBEq, Int.reduceLE, Int.reduceLT, Int.reduceEq, Int.reduceNeg, Int.reduceAdd, Int.reduceSub, Int.reduceMul, Int.reduceToNat, i_avl_even, h, h1, h2, e]
    · rw [hp] at h1
      cases hq : r.bal
      · rw [hq] at h2
        simp only [Bool.and_false, Bool.false_and]
        refine Ev_run t_avl_even rfl rfl ?_
        simp (maxSteps := 1000000) (disch := first | omega | (simp only [List.length_cons, List.length_nil, List.length_append, List.length_map, List.length_take, List.length_drop]; omega)) only [go_sem, ↓reduceIte, Nat.reduceSub, Nat.reduceAdd, Nat.reduceMul, Nat.reduceLeDiff, Nat.reduceLT, Nat.reduceEqDiff, Nat.reduceBEq, Int.reduceLE, Int.reduceLT, Int.reduceEq, Int.reduceNeg, Int.reduceAdd, Int.reduceSub, Int.reduceMul, Int.reduceToNat, i_avl_even, h, h1, h2, e]
      · rw [hq] at h2
        refine Ev_run t_avl_even rfl rfl ?_
        by_cases c1 : l.depth - r.depth ≤ 1
        · simp (maxSteps := 1000000) (disch := first | omega | (simp only [List.length_cons, List.length_nil, List.length_append, List.length_map, List.length_take, List.length_drop]; omega)) only [go_sem, ↓reduceIte, Nat.reduceSub, Nat.reduceAdd, Nat.reduceMul, Nat.reduceLeDiff, Nat.reduceLT, Nat.reduceEqDiff, Nat.reduceBEq, Int.reduceLE, Int.reduceLT, Int.reduceEq, Int.reduceNeg, Int.reduceAdd, Int.reduceSub, Int.reduceMul, Int.reduceToNat, i_avl_even, h, h1, h2, e]
        · have e2 : max l.depth r.depth = l.depth := by omega
          simp (maxSteps := 1000000) (disch := first | omega | (simp only [List.length_cons, List.length_nil, List.length_append, List.length_map, List.length_take, List.length_drop]; omega)) only [go_sem, ↓reduceIte, Nat.reduceSub, Nat.reduceAdd, Nat.reduceMul, Nat.reduceLeDiff, Nat.reduceLT, Nat.reduceEqDiff, Nat.reduceBEq, Int.reduceLE, Int.reduceLT, Int.reduceEq, Int.reduceNeg, Int.reduceAdd, Int.reduceSub, Int.reduceMul, Int.reduceToNat, i_avl_even, h, h1, h2, e2]
/-! ### Light? -/
mutual
def T.light : T → Int → Int → Int
  | .mk k a b c l, left, d => if d = 0 ∨ left - 1 < 0 ∨ left - 1 < l.length ∨ 3000 < a.length ∨ 3000 < b.length ∨ 3000 < c.length then -1 else lightL l (left - 1) (d - 1)
def lightL : List T → Int → Int → Int
  | [], left, _ => left
  | t :: l, left, d => if t.light left d < 0 then -1 else lightL l (t.light left d) d
end
theorem light_eq (t : T) (left d : Int) : t.light left d = if d = 0 ∨ left - 1 < 0 ∨ left - 1 < t.kids.length ∨ 3000 < t.key.length ∨ 3000 < t.value.length ∨ 3000 < t.digest.length then -1 else lightL t.kids (left - 1) (d - 1) := by cases t; simp only [T.light]; rfl
mutual
theorem light_le : ∀ (t : T) (left d : Int), 0 ≤ left → -1 ≤ t.light left d ∧ t.light left d ≤ left
  | .mk k a b c l, left, d, h => by
    simp only [T.light]
    split
    · omega
    · have := lightL_le l (left - 1) (d - 1) (by omega)
      omega
theorem lightL_le : ∀ (l : List T) (left d : Int), 0 ≤ left → -1 ≤ lightL l left d ∧ lightL l left d ≤ left
  | [], left, d, h => by simp only [lightL]; omega
  | t :: l, left, d, h => by
    simp only [lightL]
    have h1 := light_le t left d h
    split
    · omega
    · have := lightL_le l (t.light left d) d (by omega)
      omega
end
/-! ### The same? -/
mutual
def T.same : T → T → Bool
  | .mk k a b c l, .mk k' a' b' c' l' => decide (k = k') && (a == a') && (b == b') && (c == c') && decide (l.length = l'.length) && sameL l l'
def sameL : List T → List T → Bool
  | [], [] => true
  | t :: l, u :: m => t.same u && sameL l m
  | _, _ => true
end
theorem same_eq (t u : T) : t.same u = (decide (t.kind = u.kind) && (t.key == u.key) && (t.value == u.value) && (t.digest == u.digest) && decide (t.kids.length = u.kids.length) && sameL t.kids u.kids) := by cases t; cases u; simp only [T.same]; rfl
mutual
theorem same_refl : ∀ t : T, t.same t = true
  | .mk k a b c l => by
    have := sameL_refl l
    simp [T.same, this]
theorem sameL_refl : ∀ l : List T, sameL l l = true
  | [] => rfl
  | t :: l => by
    have h1 := same_refl t
    have h2 := sameL_refl l
    simp only [sameL, h1, h2, Bool.and_self]
end
mutual
theorem same_imp : ∀ t u : T, t.same u = true → t = u
  | .mk k a b c l, .mk k' a' b' c' l', h => by
    simp only [T.same, Bool.and_eq_true, decide_eq_true_eq, beq_iff_eq] at h
    obtain ⟨⟨⟨⟨⟨rfl, rfl⟩, rfl⟩, rfl⟩, hl⟩, hs⟩ := h
    rw [sameL_imp l l' hl hs]
theorem sameL_imp : ∀ l m : List T, l.length = m.length → sameL l m = true → l = m
  | [], [], _, _ => rfl
  | [], _ :: _, h, _ => by simp at h
  | _ :: _, [], h, _ => by simp at h
  | t :: l, u :: m, h, hs => by
    simp only [sameL, Bool.and_eq_true] at hs
    rw [same_imp t u hs.1, sameL_imp l m (by simpa using h) hs.2]
end
end Go.Proofs.Ytebiajdkgpcidaa
