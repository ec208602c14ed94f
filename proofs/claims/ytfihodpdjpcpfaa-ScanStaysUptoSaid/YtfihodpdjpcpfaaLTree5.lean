/-
  Trees: lists, depths, likeness.
-/
import Derived.Test.YtfihodpdjpcpfaaLTree4
set_option linter.unusedSimpArgs false
set_option linter.unusedVariables false
set_option maxRecDepth 200000
set_option maxHeartbeats 4000000
namespace Go.Proofs.Ytfihodpdjpcpfaa
open Go.Ev

theorem tree_List_ev (t : T) (hs : t.size ≤ 1048576) (hc : t.chk = 0) : Ev tab G0 n_tree_List [avT t] [] = some ([.sl true (eT t.list)], []) := by
  have h1 := tree_Check_ev t hs
  rw [hc, errV, if_pos rfl] at h1
  have h2 := walk_ev t (chk_formed hc) [] (by simp; omega)
  rw [List.nil_append] at h2
  refine Ev_run t_tree_List rfl rfl ?_
  by_cases hl : t.list = []
  · rw [hl] at h2 ⊢
    simp only [insL] at h2
    simp (maxSteps := 1000000) (disch := first | omega | (simp only [List.length_cons, List.length_nil, List.length_append, List.length_map, List.length_take, List.length_drop]; omega)) only [go_sem, ↓reduceIte, Nat.reduceSub, Nat.reduceAdd, Nat.reduceMul, Nat.reduceLeDiff, Nat.reduceLT, Nat.reduceEqDiff, Nat.reduceBEq, Int.reduceLE, Int.reduceLT, Int.reduceEq, Int.reduceNeg, Int.reduceAdd, Int.reduceSub, Int.reduceMul, Int.reduceToNat, i_tree_List, h1, h2, eT_nil]
  · rw [insL_ne hl] at h2
    simp only [insL] at h2
    simp (maxSteps := 1000000) (disch := first | omega | (simp only [List.length_cons, List.length_nil, List.length_append, List.length_map, List.length_take, List.length_drop]; omega)) only [go_sem, ↓reduceIte, Nat.reduceSub, Nat.reduceAdd, Nat.reduceMul, Nat.reduceLeDiff, Nat.reduceLT, Nat.reduceEqDiff, Nat.reduceBEq, Int.reduceLE, Int.reduceLT, Int.reduceEq, Int.reduceNeg, Int.reduceAdd, Int.reduceSub, Int.reduceMul, Int.reduceToNat, i_tree_List, h1, h2]
theorem tree_List_bad (t : T) (hs : t.size ≤ 1048576) (hc : ¬ t.chk = 0) : Ev tab G0 n_tree_List [avT t] [] = some ([.sl true []], []) := by
  have h1 := tree_Check_ev t hs
  rw [errV, if_neg hc] at h1
  refine Ev_run t_tree_List rfl rfl ?_
  simp (maxSteps := 1000000) (disch := first | omega | (simp only [List.length_cons, List.length_nil, List.length_append, List.length_map, List.length_take, List.length_drop]; omega)) only [go_sem, ↓reduceIte, Nat.reduceSub, Nat.reduceAdd, Nat.reduceMul, Nat.reduceLeDiff, Nat.reduceLT, Nat.reduceEqDiff, Nat.reduceBEq, Int.reduceLE, Int.reduceLT, Int.reduceEq, Int.reduceNeg, Int.reduceAdd, Int.reduceSub, Int.reduceMul, Int.reduceToNat, i_tree_List, h1]
theorem ref04_List_ev : ∀ t : T, t.formed = true → t.size ≤ 1048576 → Ev tab G0 n_ref04_List [avT t] [] = some ([.sl true (eT t.list)], []) := F_ind
  (fun t _ h hb => by
    rw [list_nil h]
    refine Ev_run t_ref04_List rfl rfl ?_
    simp (maxSteps := 1000000) (disch := first | omega | (simp only [List.length_cons, List.length_nil, List.length_append, List.length_map, List.length_take, List.length_drop]; omega)) only [go_sem, ↓reduceIte, Nat.reduceSub, Nat.reduceAdd, Nat.reduceMul, Nat.reduceLeDiff, Nat.reduceLT, Nat.reduceEqDiff, Nat.reduceBEq, Int.reduceLE, Int.reduceLT, Int.reduceEq, Int.reduceNeg, Int.reduceAdd, Int.reduceSub, Int.reduceMul, Int.reduceToNat, i_ref04_List, h, eT_nil])
  fun t l r hf h hl hr ih1 ih2 hb => by
    have hs := size_two h
    have h1 := ih1 (by omega)
    have h2 := ih2 (by omega)
    have hll := list_size l hl
    have hlr := list_size r hr
    have hcell : [C.sc (.int .i64 t.kind), .sl (eB t.key), .sl (eB t.value), .sl (eB t.digest), .sl (eT [l, r])] = t.cells := by rw [cells_eq, h]
    rw [list_two h]
    refine Ev_run t_ref04_List rfl rfl ?_
    simp (maxSteps := 1000000) (disch := first | omega | (simp only [List.length_cons, List.length_nil, List.length_append, List.length_map, List.length_take, List.length_drop]; omega)) only [go_sem, ↓reduceIte, Nat.reduceSub, Nat.reduceAdd, Nat.reduceMul, Nat.reduceLeDiff, Nat.reduceLT, Nat.reduceEqDiff, Nat.reduceBEq, Int.reduceLE, Int.reduceLT, Int.reduceEq, Int.reduceNeg, Int.reduceAdd, Int.reduceSub, Int.reduceMul, Int.reduceToNat, i_ref04_List, h, h1, h2, hcell, eT_one, List.length_append]
/-! ### Depths -/
mutual
def T.depth : T → Int
  | .mk _ _ _ _ l => match depthL l with
    | x :: y :: _ => max x y + 1
    | _ => 0
def depthL : List T → List Int
  | [] => []
  | t :: l => t.depth :: depthL l
end
theorem depth_nil {t : T} (h : t.kids = []) : t.depth = 0 := by
  cases t with
  | mk k a b c l =>
    simp only [T.kids] at h
    subst h
    simp only [T.depth, depthL]
theorem depth_two {t l r : T} (h : t.kids = [l, r]) : t.depth = max l.depth r.depth + 1 := by
  cases t with
  | mk k a b c kk =>
    simp only [T.kids] at h
    subst h
    simp only [T.depth, depthL]
theorem depth_le : ∀ t : T, t.formed = true → 0 ≤ t.depth ∧ t.depth ≤ t.size := F_ind (fun t _ h => by rw [depth_nil h]; omega) fun t l r _ h _ _ h1 h2 => by
  rw [depth_two h, size_two h]
  omega
theorem ref04_Depth_ev : ∀ t : T, t.formed = true → t.size ≤ 1048576 → Ev tab G0 n_ref04_Depth [avT t] [] = some ([i64 t.depth], []) := F_ind
  (fun t _ h hb => by
    rw [depth_nil h]
    refine Ev_run t_ref04_Depth rfl rfl ?_
    simp (maxSteps := 1000000) (disch := first | omega | (simp only [List.length_cons, List.length_nil, List.length_append, List.length_map, List.length_take, List.length_drop]; omega)) only [go_sem, ↓reduceIte, Nat.reduceSub, Nat.reduceAdd, Nat.reduceMul, Nat.reduceLeDiff, Nat.reduceLT, Nat.reduceEqDiff, Nat.reduceBEq, Int.reduceLE, Int.reduceLT, Int.reduceEq, Int.reduceNeg, Int.reduceAdd, Int.reduceSub, Int.reduceMul, Int.reduceToNat, i_ref04_Depth, h])
  fun t l r hf h hl hr ih1 ih2 hb => by
    have hs := size_two h
    have h1 := ih1 (by omega)
    have h2 := ih2 (by omega)
    have d1 := depth_le l hl
    have d2 := depth_le r hr
    rw [depth_two h]
    refine Ev_run t_ref04_Depth rfl rfl ?_
    by_cases hc : r.depth < l.depth
    · have e : max l.depth r.depth = l.depth := by omega
      simp (maxSteps := 1000000) (disch := first | omega | (simp only [List.length_cons, List.length_nil, List.length_append, List.length_map, List.length_take, List.length_drop]; omega)) only [go_sem, ↓reduceIte, Nat.reduceSub, Nat.reduceAdd, Nat.reduceMul, Nat.reduceLeDiff, Nat.reduceLT, Nat.reduceEqDiff, Nat.reduceBEq, Int.reduceLE, Int.reduceLT, Int.reduceEq, Int.reduceNeg, Int.reduceAdd, Int.reduceSub, Int.reduceMul, Int.reduceToNat, i_ref04_Depth, h, h1, h2, e]
    · have e : max l.depth r.depth = r.depth := by omega
      simp (maxSteps := 1000000) (disch := first | omega | (simp only [List.length_cons, List.length_nil, List.length_append, List.length_map, List.length_take, List.length_drop]; omega)) only [go_sem, ↓reduceIte, Nat.reduceSub, Nat.reduceAdd, Nat.reduceMul, Nat.reduceLeDiff, Nat.reduceLT, Nat.reduceEqDiff, Nat.reduceBEq, Int.reduceLE, Int.reduceLT, Int.reduceEq, Int.reduceNeg, Int.reduceAdd, Int.reduceSub, Int.reduceMul, Int.reduceToNat, i_ref04_Depth, h, h1, h2, e]
mutual
def T.bal : T → Bool
  | .mk _ _ _ _ l => match balL l, depthL l with
    | p :: q :: _, x :: y :: _ => p && q && decide (x - y ≤ 1) && decide (y - x ≤ 1)
    | _, _ => true
def balL : List T → List Bool
  | [] => []
  | t :: l => t.bal :: balL l
end
theorem bal_nil {t : T} (h : t.kids = []) : t.bal = true := by
  cases t with
  | mk k a b c l =>
    simp only [T.kids] at h
    subst h
    simp only [T.bal, balL, depthL]
theorem bal_two {t l r : T} (h : t.kids = [l, r]) : t.bal = (l.bal && r.bal && decide (l.depth - r.depth ≤ 1) && decide (r.depth - l.depth ≤ 1)) := by
  cases t with
  | mk k a b c kk =>
    simp only [T.kids] at h
    subst h
    simp only [T.bal, balL, depthL]
theorem avl_even_ev : ∀ t : T, t.formed = true → t.size ≤ 1048576 → Ev tab G0 n_avl_even [avT t] [] = some ([i64 t.depth, bo t.bal], []) := F_ind
  (fun t _ h hb => by
    rw [depth_nil h, bal_nil h]
    refine Ev_run t_avl_even rfl rfl ?_
    simp (maxSteps := 1000000) (disch := first | omega | (simp only [List.length_cons, List.length_nil, List.length_append, List.length_map, List.length_take, List.length_drop]; omega)) only [go_sem, ↓reduceIte, Nat.reduceSub, Nat.reduceAdd, Nat.reduceMul, Nat.reduceLeDiff, Nat.reduceLT, Nat.reduceEqDiff, Nat.reduceBEq, Int.reduceLE, Int.reduceLT, Int.reduceEq, Int.reduceNeg, Int.reduceAdd, Int.reduceSub, Int.reduceMul, Int.reduceToNat, i_avl_even, h])
  fun t l r hf h hl hr ih1 ih2 hb => by
    have hs := size_two h
    have h1 := ih1 (by omega)
    have h2 := ih2 (by omega)
    have d1 := depth_le l hl
    have d2 := depth_le r hr
    have e : (if l.depth < r.depth then r.depth else l.depth) = max l.depth r.depth := by split <;> omega
    rw [depth_two h, bal_two h]
    cases hp : l.bal
    · rw [hp] at h1
      simp only [Bool.false_and]
      refine Ev_run t_avl_even rfl rfl ?_
      simp (maxSteps := 1000000) (disch := first | omega | (simp only [List.length_cons, List.length_nil, List.length_append, List.length_map, List.length_take, List.length_drop]; omega)) only [go_sem, ↓reduceIte, Nat.reduceSub, Nat.reduceAdd, Nat.reduceMul, Nat.reduceLeDiff, Nat.reduceLT, Nat.reduceEqDiff, Nat.reduceBEq, Int.reduceLE, Int.reduceLT, Int.reduceEq, Int.reduceNeg, Int.reduceAdd, Int.reduceSub, Int.reduceMul, Int.reduceToNat, i_avl_even, h, h1, h2, e]
    · rw [hp] at h1
      cases hq : r.bal
      · rw [hq] at h2
        simp only [Bool.and_false, Bool.false_and]
        refine Ev_run t_avl_even rfl rfl ?_
        simp (maxSteps := 1000000) (disch := first | omega | (simp only [List.length_cons, List.length_nil, List.length_append, List.length_map, List.length_take, List.length_drop]; omega)) only [go_sem, ↓reduceIte, Nat.reduceSub, Nat.reduceAdd, Nat.reduceMul, Nat.reduceLeDiff, Nat.reduceLT, Nat.reduceEqDiff, Nat.reduceBEq, Int.reduceLE, Int.reduceLT, Int.reduceEq, Int.reduceNeg, Int.reduceAdd, Int.reduceSub, Int.reduceMul, Int.reduceToNat, i_avl_even, h, h1, h2, e]
      · rw [hq] at h2
        refine Ev_run t_avl_even rfl rfl ?_
        by_cases c1 : l.depth - r.depth ≤ 1
        · simp (maxSteps := 1000000) (disch := first | omega | (simp only [List.length_cons, List.length_nil, List.length_append, List.length_map, List.length_take, List.length_drop]; omega)) only [go_sem, ↓reduceIte, Nat.reduceSub, Nat.reduceAdd, Nat.reduceMul, Nat.reduceLeDiff, Nat.reduceLT, Nat.reduceEqDiff, Nat.reduceBEq, Int.reduceLE, Int.reduceLT, Int.reduceEq, Int.reduceNeg, Int.reduceAdd, Int.reduceSub, Int.reduceMul, Int.reduceToNat, i_avl_even, h, h1, h2, e]
        · have e2 : max l.depth r.depth = l.depth := by omega
          simp (maxSteps := 1000000) (disch := first | omega | (simp only [List.length_cons, List.length_nil, List.length_append, List.length_map, List.length_take, List.length_drop]; omega)) only [go_sem, ↓reduceIte, Nat.reduceSub, Nat.reduceAdd, Nat.reduceMul, Nat.reduceLeDiff, Nat.reduceLT, Nat.reduceEqDiff, Nat.reduceBEq, Int.reduceLE, Int.reduceLT, Int.reduceEq, Int.reduceNeg, Int.reduceAdd, Int.reduceSub, Int.reduceMul, Int.reduceToNat, i_avl_even, h, h1, h2, e2]
/-! ### Light? -/
mutual
def T.light : T → Int → Int → Int
  | .mk k a b c l, left, d => if d = 0 ∨ left - 1 < 0 ∨ left - 1 < l.length ∨ 3000 < a.length ∨ 3000 < b.length ∨ 3000 < c.length then -1 else lightL l (left - 1) (d - 1)
def lightL : List T → Int → Int → Int
  | [], left, _ => left
  | t :: l, left, d => if t.light left d < 0 then -1 else lightL l (t.light left d) d
end
theorem light_eq (t : T) (left d : Int) : t.light left d = if d = 0 ∨ left - 1 < 0 ∨ left - 1 < t.kids.length ∨ 3000 < t.key.length ∨ 3000 < t.value.length ∨ 3000 < t.digest.length then -1 else lightL t.kids (left - 1) (d - 1) := by cases t; simp only [T.light]; rfl
mutual
theorem light_le : ∀ (t : T) (left d : Int), 0 ≤ left → -1 ≤ t.light left d ∧ t.light left d ≤ left
  | .mk k a b c l, left, d, h => by
    simp only [T.light]
    split
    · omega
    · have := lightL_le l (left - 1) (d - 1) (by omega)
      omega
theorem lightL_le : ∀ (l : List T) (left d : Int), 0 ≤ left → -1 ≤ lightL l left d ∧ lightL l left d ≤ left
  | [], left, d, h => by simp only [lightL]; omega
  | t :: l, left, d, h => by
    simp only [lightL]
    have h1 := light_le t left d h
    split
    · omega
    · have := lightL_le l (t.light left d) d (by omega)
      omega
end
/-! ### The same? -/
mutual
def T.same : T → T → Bool
  | .mk k a b c l, .mk k' a' b' c' l' => decide (k = k') && (a == a') && (b == b') && (c == c') && decide (l.length = l'.length) && sameL l l'
def sameL : List T → List T → Bool
  | [], [] => true
  | t :: l, u :: m => t.same u && sameL l m
  | _, _ => true
end
theorem same_eq (t u : T) : t.same u = (decide (t.kind = u.kind) && (t.key == u.key) && (t.value == u.value) && (t.digest == u.digest) && decide (t.kids.length = u.kids.length) && sameL t.kids u.kids) := by cases t; cases u; simp only [T.same]; rfl
mutual
theorem same_refl : ∀ t : T, t.same t = true
  | .mk k a b c l => by
    have := sameL_refl l
    simp [T.same, this]
theorem sameL_refl : ∀ l : List T, sameL l l = true
  | [] => rfl
  | t :: l => by
    have h1 := same_refl t
    have h2 := sameL_refl l
    simp only [sameL, h1, h2, Bool.and_self]
end
mutual
theorem same_imp : ∀ t u : T, t.same u = true → t = u
  | .mk k a b c l, .mk k' a' b' c' l', h => by
    simp only [T.same, Bool.and_eq_true, decide_eq_true_eq, beq_iff_eq] at h
    obtain ⟨⟨⟨⟨⟨rfl, rfl⟩, rfl⟩, rfl⟩, hl⟩, hs⟩ := h
    rw [sameL_imp l l' hl hs]
theorem sameL_imp : ∀ l m : List T, l.length = m.length → sameL l m = true → l = m
  | [], [], _, _ => rfl
  | [], _ :: _, h, _ => by simp at h
  | _ :: _, [], h, _ => by simp at h
  | t :: l, u :: m, h, hs => by
    simp only [sameL, Bool.and_eq_true] at hs
    rw [same_imp t u hs.1, sameL_imp l m (by simpa using h) hs.2]
end
theorem same_loop (t u : T) (hl : t.kids.length = u.kids.length) (hb : t.kids.length ≤ 1048576) (hk : ∀ k ∈ t.kids, ∀ q, q.size ≤ 1048576 → Ev tab G0 n_ref04_Same [avT k, avT q] [] = some ([bo (k.same q)], [])) (hq : ∀ q ∈ u.kids, q.size ≤ 1048576) : ∀ (n i : Nat), n + i = t.kids.length → L_ref04_Same_0 (s_ref04_Same_K0 (.ptr 0 0) (.ptr 1 0) (i64 i) [some (oT t), some (oT u)]) = if sameL (t.kids.drop i) (u.kids.drop i) = true then some (.exit 0, s_ref04_Same_J0 [none, none]) else some (.ret, s_ref04_Same_R (bo false) [none, none])
  | 0, i, h => by
    rw [List.drop_of_length_le (by omega), List.drop_of_length_le (by omega), L_ref04_Same_0_eq, sameL, if_pos rfl]
    simp (maxSteps := 1000000) (disch := first | omega | (simp only [List.length_cons, List.length_nil, List.length_append, List.length_map, List.length_take, List.length_drop]; omega)) only [go_sem, ↓reduceIte, Nat.reduceSub, Nat.reduceAdd, Nat.reduceMul, Nat.reduceLeDiff, Nat.reduceLT, Nat.reduceEqDiff, Nat.reduceBEq, Int.reduceLE, Int.reduceLT, Int.reduceEq, Int.reduceNeg, Int.reduceAdd, Int.reduceSub, Int.reduceMul, Int.reduceToNat, i_ref04_Same_b0]
  | n + 1, i, h => by
    have ih := same_loop t u hl hb hk hq n (i + 1) (by omega)
    have h1 := hk _ (getD_mem' (d := .no) (i := i) (by omega)) (u.kids.getD i .no) (hq _ (getD_mem' (by omega)))
    rw [drop_step (l := t.kids) (d := .no) (by omega), drop_step (l := u.kids) (d := .no) (by omega), L_ref04_Same_0_eq, sameL]
    generalize hd : t.kids.getD i .no = k at *
    generalize hd2 : u.kids.getD i .no = q at *
    try simp (maxSteps := 1000000) (disch := first | omega | (simp only [List.length_cons, List.length_nil, List.length_append, List.length_map, List.length_take, List.length_drop]; omega)) only [go_sem, ↓reduceIte, Nat.reduceSub, Nat.reduceAdd, Nat.reduceMul, Nat.reduceLeDiff, Nat.reduceLT, Nat.reduceEqDiff, Nat.reduceBEq, Int.reduceLE, Int.reduceLT, Int.reduceEq, Int.reduceNeg, Int.reduceAdd, Int.reduceSub, Int.reduceMul, Int.reduceToNat] at ih
    cases hf : k.same q
    · rw [hf] at h1
      rw [Bool.false_and, if_neg (by simp)]
      simp (maxSteps := 1000000) (disch := first | omega | (simp only [List.length_cons, List.length_nil, List.length_append, List.length_map, List.length_take, List.length_drop]; omega)) only [go_sem, ↓reduceIte, Nat.reduceSub, Nat.reduceAdd, Nat.reduceMul, Nat.reduceLeDiff, Nat.reduceLT, Nat.reduceEqDiff, Nat.reduceBEq, Int.reduceLE, Int.reduceLT, Int.reduceEq, Int.reduceNeg, Int.reduceAdd, Int.reduceSub, Int.reduceMul, Int.reduceToNat, i_ref04_Same_b0, hd, hd2, h1]
    · rw [hf] at h1
      rw [Bool.true_and]
      simp (maxSteps := 1000000) (disch := first | omega | (simp only [List.length_cons, List.length_nil, List.length_append, List.length_map, List.length_take, List.length_drop]; omega)) only [go_sem, ↓reduceIte, Nat.reduceSub, Nat.reduceAdd, Nat.reduceMul, Nat.reduceLeDiff, Nat.reduceLT, Nat.reduceEqDiff, Nat.reduceBEq, Int.reduceLE, Int.reduceLT, Int.reduceEq, Int.reduceNeg, Int.reduceAdd, Int.reduceSub, Int.reduceMul, Int.reduceToNat, i_ref04_Same_b0, hd, hd2, h1, ih]
theorem ref04_Same_ev : ∀ (t u : T), t.size ≤ 1048576 → u.size ≤ 1048576 → Ev tab G0 n_ref04_Same [avT t, avT u] [] = some ([bo (t.same u)], []) := T_ind fun t ih u hs hu => by
  have hl := kids_len t
  have hl2 := kids_len u
  rw [same_eq]
  refine Ev_run t_ref04_Same rfl rfl ?_
  by_cases c1 : t.kind = u.kind
  · by_cases c2 : t.key = u.key
    · by_cases c3 : t.value = u.value
      · by_cases c4 : t.digest = u.digest
        · by_cases c5 : t.kids.length = u.kids.length
          · have hk : ∀ k ∈ t.kids, ∀ q, q.size ≤ 1048576 → Ev tab G0 n_ref04_Same [avT k, avT q] [] = some ([bo (k.same q)], []) := fun k hk q hq => ih k hk q (by have := size_kid hk; omega) hq
            have h0 := same_loop t u c5 (by omega) hk (fun q hq => by have := size_kid hq; omega) t.kids.length 0 (by omega)
            have e0 : ((0 : Nat) : Int) = 0 := rfl
            have r1 := beq_self_eq_true t.key
            have r2 := beq_self_eq_true t.value
            have r3 := beq_self_eq_true t.digest
            have r4 : decide (t.kids.length = u.kids.length) = true := decide_eq_true c5
            have hu2 : oT u = .var [i64 u.kind, .sl true (eB t.key), .sl true (eB t.value), .sl true (eB t.digest), .sl true (eT u.kids)] := by rw [c2, c3, c4]
            rw [List.drop_zero, List.drop_zero, hu2] at h0
            rw [← c2, ← c3, ← c4, r1, r2, r3, r4, decide_eq_true c1]
            simp only [Bool.true_and]
            cases hf : sameL t.kids u.kids
            · rw [hf, if_neg (by simp)] at h0
              try simp (maxSteps := 1000000) (disch := first | omega | (simp only [List.length_cons, List.length_nil, List.length_append, List.length_map, List.length_take, List.length_drop]; omega)) only [go_sem, ↓reduceIte, Nat.reduceSub, Nat.reduceAdd, Nat.reduceMul, Nat.reduceLeDiff, Nat.reduceLT, Nat.reduceEqDiff, Nat.reduceBEq, Int.reduceLE, Int.reduceLT, Int.reduceEq, Int.reduceNeg, Int.reduceAdd, Int.reduceSub, Int.reduceMul, Int.reduceToNat, e0] at h0
              simp (maxSteps := 1000000) (disch := first | omega | (simp only [List.length_cons, List.length_nil, List.length_append, List.length_map, List.length_take, List.length_drop]; omega)) only [go_sem, ↓reduceIte, Nat.reduceSub, Nat.reduceAdd, Nat.reduceMul, Nat.reduceLeDiff, Nat.reduceLT, Nat.reduceEqDiff, Nat.reduceBEq, Int.reduceLE, Int.reduceLT, Int.reduceEq, Int.reduceNeg, Int.reduceAdd, Int.reduceSub, Int.reduceMul, Int.reduceToNat, i_ref04_Same, ← c2, ← c3, ← c4, r1, r2, r3, h0]
            · rw [hf, if_pos rfl] at h0
              try simp (maxSteps := 1000000) (disch := first | omega | (simp only [List.length_cons, List.length_nil, List.length_append, List.length_map, List.length_take, List.length_drop]; omega)) only [go_sem, ↓reduceIte, Nat.reduceSub, Nat.reduceAdd, Nat.reduceMul, Nat.reduceLeDiff, Nat.reduceLT, Nat.reduceEqDiff, Nat.reduceBEq, Int.reduceLE, Int.reduceLT, Int.reduceEq, Int.reduceNeg, Int.reduceAdd, Int.reduceSub, Int.reduceMul, Int.reduceToNat, e0] at h0
              simp (maxSteps := 1000000) (disch := first | omega | (simp only [List.length_cons, List.length_nil, List.length_append, List.length_map, List.length_take, List.length_drop]; omega)) only [go_sem, ↓reduceIte, Nat.reduceSub, Nat.reduceAdd, Nat.reduceMul, Nat.reduceLeDiff, Nat.reduceLT, Nat.reduceEqDiff, Nat.reduceBEq, Int.reduceLE, Int.reduceLT, Int.reduceEq, Int.reduceNeg, Int.reduceAdd, Int.reduceSub, Int.reduceMul, Int.reduceToNat, i_ref04_Same, ← c2, ← c3, ← c4, r1, r2, r3, h0]
          · have r4 : decide (t.kids.length = u.kids.length) = false := decide_eq_false c5
            have r1 := beq_self_eq_true t.key
            have r2 := beq_self_eq_true t.value
            have r3 := beq_self_eq_true t.digest
            rw [r4]
            simp only [Bool.and_false, Bool.false_and]
            simp (maxSteps := 1000000) (disch := first | omega | (simp only [List.length_cons, List.length_nil, List.length_append, List.length_map, List.length_take, List.length_drop]; omega)) only [go_sem, ↓reduceIte, Nat.reduceSub, Nat.reduceAdd, Nat.reduceMul, Nat.reduceLeDiff, Nat.reduceLT, Nat.reduceEqDiff, Nat.reduceBEq, Int.reduceLE, Int.reduceLT, Int.reduceEq, Int.reduceNeg, Int.reduceAdd, Int.reduceSub, Int.reduceMul, Int.reduceToNat, i_ref04_Same, ← c2, ← c3, ← c4, r1, r2, r3]
        · have q4 : (t.digest == u.digest) = false := by simp [c4]
          have r1 := beq_self_eq_true t.key
          have r2 := beq_self_eq_true t.value
          rw [q4]
          simp only [Bool.and_false, Bool.false_and]
          simp (maxSteps := 1000000) (disch := first | omega | (simp only [List.length_cons, List.length_nil, List.length_append, List.length_map, List.length_take, List.length_drop]; omega)) only [go_sem, ↓reduceIte, Nat.reduceSub, Nat.reduceAdd, Nat.reduceMul, Nat.reduceLeDiff, Nat.reduceLT, Nat.reduceEqDiff, Nat.reduceBEq, Int.reduceLE, Int.reduceLT, Int.reduceEq, Int.reduceNeg, Int.reduceAdd, Int.reduceSub, Int.reduceMul, Int.reduceToNat, i_ref04_Same, ← c2, ← c3, r1, r2, q4]
      · have q3 : (t.value == u.value) = false := by simp [c3]
        have r1 := beq_self_eq_true t.key
        rw [q3]
        simp only [Bool.and_false, Bool.false_and]
        simp (maxSteps := 1000000) (disch := first | omega | (simp only [List.length_cons, List.length_nil, List.length_append, List.length_map, List.length_take, List.length_drop]; omega)) only [go_sem, ↓reduceIte, Nat.reduceSub, Nat.reduceAdd, Nat.reduceMul, Nat.reduceLeDiff, Nat.reduceLT, Nat.reduceEqDiff, Nat.reduceBEq, Int.reduceLE, Int.reduceLT, Int.reduceEq, Int.reduceNeg, Int.reduceAdd, Int.reduceSub, Int.reduceMul, Int.reduceToNat, i_ref04_Same, ← c2, r1, q3]
    · have q2 : (t.key == u.key) = false := by simp [c2]
      rw [q2]
      simp only [Bool.and_false, Bool.false_and]
      simp (maxSteps := 1000000) (disch := first | omega | (simp only [List.length_cons, List.length_nil, List.length_append, List.length_map, List.length_take, List.length_drop]; omega)) only [go_sem, ↓reduceIte, Nat.reduceSub, Nat.reduceAdd, Nat.reduceMul, Nat.reduceLeDiff, Nat.reduceLT, Nat.reduceEqDiff, Nat.reduceBEq, Int.reduceLE, Int.reduceLT, Int.reduceEq, Int.reduceNeg, Int.reduceAdd, Int.reduceSub, Int.reduceMul, Int.reduceToNat, i_ref04_Same, q2]
  · rw [decide_eq_false c1]
    simp only [Bool.and_false, Bool.false_and]
    simp (maxSteps := 1000000) (disch := first | omega | (simp only [List.length_cons, List.length_nil, List.length_append, List.length_map, List.length_take, List.length_drop]; omega)) only [go_sem, ↓reduceIte, Nat.reduceSub, Nat.reduceAdd, Nat.reduceMul, Nat.reduceLeDiff, Nat.reduceLT, Nat.reduceEqDiff, Nat.reduceBEq, Int.reduceLE, Int.reduceLT, Int.reduceEq, Int.reduceNeg, Int.reduceAdd, Int.reduceSub, Int.reduceMul, Int.reduceToNat, i_ref04_Same]
theorem ref04_Same_self (t : T) (h : t.size ≤ 1048576) : Ev tab G0 n_ref04_Same [avT t, avT t] [] = some ([bo true], []) := by
  have := ref04_Same_ev t t h h
  rwa [same_refl] at this

end Go.Proofs.Ytfihodpdjpcpfaa
