/-
  Trees: lists, depths, likeness.
-/
import Derived.Test.YtdngljdbgepaiaaGreatDoorLTree4
set_option linter.unusedSimpArgs false
set_option linter.unusedVariables false
set_option maxRecDepth 200000
set_option maxHeartbeats 4000000
namespace Go.Proofs.YtdngljdbgepaiaaGreatDoor
open Go.Ev

/-! ### Depths -/
mutual
def T.depth : T → Int
  | .mk _ _ _ _ l => match depthL l with
    | x :: y :: _ => max x y + 1
    | _ => 0
def depthL : List T → List Int
  | [] => []
  | t :: l => t.depth :: depthL l
end
mutual
def T.bal : T → Bool
  | .mk _ _ _ _ l => match balL l, depthL l with
    | p :: q :: _, x :: y :: _ => p && q && decide (x - y ≤ 1) && decide (y - x ≤ 1)
    | _, _ => true
def balL : List T → List Bool
  | [] => []
  | t :: l => t.bal :: balL l
end
/-! ### Light? -/
mutual
def T.light : T → Int → Int → Int
  | .mk k a b c l, left, d => if d = 0 ∨ left - 1 < 0 ∨ left - 1 < l.length ∨ 3000 < a.length ∨ 3000 < b.length ∨ 3000 < c.length then -1 else lightL l (left - 1) (d - 1)
def lightL : List T → Int → Int → Int
  | [], left, _ => left
  | t :: l, left, d => if t.light left d < 0 then -1 else lightL l (t.light left d) d
end
theorem light_eq (t : T) (left d : Int) : t.light left d = if d = 0 ∨ left - 1 < 0 ∨ left - 1 < t.kids.length ∨ 3000 < t.key.length ∨ 3000 < t.value.length ∨ 3000 < t.digest.length then -1 else lightL t.kids (left - 1) (d - 1) := by cases t; simp only [T.light]; rfl
mutual
theorem light_le : ∀ (t : T) (left d : Int), 0 ≤ left → -1 ≤ t.light left d ∧ t.light left d ≤ left
  | .mk k a b c l, left, d, h => by
    simp only [T.light]
    split
    · omega
    · have := lightL_le l (left - 1) (d - 1) (by omega)
      omega
theorem lightL_le : ∀ (l : List T) (left d : Int), 0 ≤ left → -1 ≤ lightL l left d ∧ lightL l left d ≤ left
  | [], left, d, h => by simp only [lightL]; omega
  | t :: l, left, d, h => by
    simp only [lightL]
    have h1 := light_le t left d h
    split
    · omega
    · have := lightL_le l (t.light left d) d (by omega)
      omega
end
theorem light_loop (t : T) (d : Int) (hd : 1 ≤ d ∧ d ≤ 1000) (hl : t.kids.length ≤ 1048576) (hk : ∀ k ∈ t.kids, ∀ left : Int, 0 ≤ left ∧ left ≤ 1000 → Ev tab G0 n_ref04_Light [avT k, i64 left, i64 (d - 1)] [] = some ([i64 (k.light left (d - 1))], [])) : ∀ (n i : Nat) (left : Int), n + i = t.kids.length → 0 ≤ left ∧ left ≤ 1000 → L_ref04_Light_0 (s_ref04_Light_K0 (i64 left) (i64 d) (.ptr 0 0) (i64 i) [some (oT t)]) = if 0 ≤ lightL (t.kids.drop i) left (d - 1) then some (.exit 0, s_ref04_Light_J0 (i64 (lightL (t.kids.drop i) left (d - 1))) [none]) else some (.ret, s_ref04_Light_R (i64 (-1)) [none])
  | 0, i, left, h, hle => by
    rw [List.drop_of_length_le (by omega), L_ref04_Light_0_eq, lightL, if_pos hle.1]
    simp (maxSteps := 1000000) (disch := first | omega | (simp only [lens, List.length_map]; omega)) only [go_sem, ↓reduceIte, Nat.reduceSub, Nat.reduceAdd, Nat.reduceMul, Nat.reduceLeDiff, Nat.reduceLT, Nat.reduceEqDiff, Nat.reduceBEq, Int.reduceLE, Int.reduceLT, Int.reduceEq, Int.reduceNeg, Int.reduceAdd, Int.reduceSub, Int.reduceMul, Int.reduceToNat, i_ref04_Light_b0]
  | n + 1, i, left, h, hle => by
    have h1 := hk _ (getD_mem' (d := .no) (i := i) (by omega)) left hle
    have hb := light_le (t.kids.getD i .no) left (d - 1) hle.1
    rw [drop_step (d := .no) (by omega), L_ref04_Light_0_eq, lightL]
    by_cases hf : (t.kids.getD i .no).light left (d - 1) < 0
    · rw [if_pos hf, if_neg (by omega)]
      generalize hdd : t.kids.getD i .no = k at *
      generalize k.light left (d - 1) = x at *
      simp (maxSteps := 1000000) (disch := first | omega | (simp only [lens, List.length_map]; omega)) only [go_sem, ↓reduceIte, Nat.reduceSub, Nat.reduceAdd, Nat.reduceMul, Nat.reduceLeDiff, Nat.reduceLT, Nat.reduceEqDiff, Nat.reduceBEq, Int.reduceLE, Int.reduceLT, Int.reduceEq, Int.reduceNeg, Int.reduceAdd, Int.reduceSub, Int.reduceMul, Int.reduceToNat, i_ref04_Light_b0, hdd, h1]
    · have ih := light_loop t d hd hl hk n (i + 1) ((t.kids.getD i .no).light left (d - 1)) (by omega) (by omega)
      rw [if_neg hf]
      generalize hdd : t.kids.getD i .no = k at *
      generalize k.light left (d - 1) = x at *
      generalize lightL (t.kids.drop (i + 1)) x (d - 1) = z at *
      try simp (maxSteps := 1000000) (disch := first | omega | (simp only [lens, List.length_map]; omega)) only [go_sem, ↓reduceIte, Nat.reduceSub, Nat.reduceAdd, Nat.reduceMul, Nat.reduceLeDiff, Nat.reduceLT, Nat.reduceEqDiff, Nat.reduceBEq, Int.reduceLE, Int.reduceLT, Int.reduceEq, Int.reduceNeg, Int.reduceAdd, Int.reduceSub, Int.reduceMul, Int.reduceToNat] at ih
      simp (maxSteps := 1000000) (disch := first | omega | (simp only [lens, List.length_map]; omega)) only [go_sem, ↓reduceIte, Nat.reduceSub, Nat.reduceAdd, Nat.reduceMul, Nat.reduceLeDiff, Nat.reduceLT, Nat.reduceEqDiff, Nat.reduceBEq, Int.reduceLE, Int.reduceLT, Int.reduceEq, Int.reduceNeg, Int.reduceAdd, Int.reduceSub, Int.reduceMul, Int.reduceToNat, i_ref04_Light_b0, hdd, h1, ih]
theorem ref04_Light_ev : ∀ (t : T) (left d : Int), 0 ≤ left ∧ left ≤ 1000 → 0 ≤ d ∧ d ≤ 1000 → t.size ≤ 1048576 → Ev tab G0 n_ref04_Light [avT t, i64 left, i64 d] [] = some ([i64 (t.light left d)], []) := T_ind fun t ih left d hle hd hs => by
  have hl := kids_len t
  have hz := size_eq t
  rw [light_eq]
  by_cases hc : d = 0 ∨ left - 1 < 0 ∨ left - 1 < t.kids.length ∨ 3000 < t.key.length ∨ 3000 < t.value.length ∨ 3000 < t.digest.length
  · rw [if_pos hc]
    refine Ev_run t_ref04_Light rfl rfl ?_
    by_cases c1 : d = 0
    · simp (maxSteps := 1000000) (disch := first | omega | (simp only [lens, List.length_map]; omega)) only [go_sem, ↓reduceIte, Nat.reduceSub, Nat.reduceAdd, Nat.reduceMul, Nat.reduceLeDiff, Nat.reduceLT, Nat.reduceEqDiff, Nat.reduceBEq, Int.reduceLE, Int.reduceLT, Int.reduceEq, Int.reduceNeg, Int.reduceAdd, Int.reduceSub, Int.reduceMul, Int.reduceToNat, i_ref04_Light]
    · by_cases c2 : left - 1 < 0
      · simp (maxSteps := 1000000) (disch := first | omega | (simp only [lens, List.length_map]; omega)) only [go_sem, ↓reduceIte, Nat.reduceSub, Nat.reduceAdd, Nat.reduceMul, Nat.reduceLeDiff, Nat.reduceLT, Nat.reduceEqDiff, Nat.reduceBEq, Int.reduceLE, Int.reduceLT, Int.reduceEq, Int.reduceNeg, Int.reduceAdd, Int.reduceSub, Int.reduceMul, Int.reduceToNat, i_ref04_Light]
      · by_cases c3 : left - 1 < t.kids.length
        · simp (maxSteps := 1000000) (disch := first | omega | (simp only [lens, List.length_map]; omega)) only [go_sem, ↓reduceIte, Nat.reduceSub, Nat.reduceAdd, Nat.reduceMul, Nat.reduceLeDiff, Nat.reduceLT, Nat.reduceEqDiff, Nat.reduceBEq, Int.reduceLE, Int.reduceLT, Int.reduceEq, Int.reduceNeg, Int.reduceAdd, Int.reduceSub, Int.reduceMul, Int.reduceToNat, i_ref04_Light]
        · by_cases c4 : 3000 < t.key.length
          · simp (maxSteps := 1000000) (disch := first | omega | (simp only [lens, List.length_map]; omega)) only [go_sem, ↓reduceIte, Nat.reduceSub, Nat.reduceAdd, Nat.reduceMul, Nat.reduceLeDiff, Nat.reduceLT, Nat.reduceEqDiff, Nat.reduceBEq, Int.reduceLE, Int.reduceLT, Int.reduceEq, Int.reduceNeg, Int.reduceAdd, Int.reduceSub, Int.reduceMul, Int.reduceToNat, i_ref04_Light]
          · by_cases c5 : 3000 < t.value.length
            · simp (maxSteps := 1000000) (disch := first | omega | (simp only [lens, List.length_map]; omega)) only [go_sem, ↓reduceIte, Nat.reduceSub, Nat.reduceAdd, Nat.reduceMul, Nat.reduceLeDiff, Nat.reduceLT, Nat.reduceEqDiff, Nat.reduceBEq, Int.reduceLE, Int.reduceLT, Int.reduceEq, Int.reduceNeg, Int.reduceAdd, Int.reduceSub, Int.reduceMul, Int.reduceToNat, i_ref04_Light]
            · simp (maxSteps := 1000000) (disch := first | omega | (simp only [lens, List.length_map]; omega)) only [go_sem, ↓reduceIte, Nat.reduceSub, Nat.reduceAdd, Nat.reduceMul, Nat.reduceLeDiff, Nat.reduceLT, Nat.reduceEqDiff, Nat.reduceBEq, Int.reduceLE, Int.reduceLT, Int.reduceEq, Int.reduceNeg, Int.reduceAdd, Int.reduceSub, Int.reduceMul, Int.reduceToNat, i_ref04_Light]
  · rw [if_neg hc]
    have hk : ∀ k ∈ t.kids, ∀ left : Int, 0 ≤ left ∧ left ≤ 1000 → Ev tab G0 n_ref04_Light [avT k, i64 left, i64 (d - 1)] [] = some ([i64 (k.light left (d - 1))], []) := fun k hk left hle => ih k hk left (d - 1) hle (by omega) (by have := size_kid hk; omega)
    have h0 := light_loop t d (by omega) (by omega) hk t.kids.length 0 (left - 1) (by omega) (by omega)
    have e0 : ((0 : Nat) : Int) = 0 := rfl
    have hb := lightL_le t.kids (left - 1) (d - 1) (by omega)
    rw [List.drop_zero] at h0
    generalize lightL t.kids (left - 1) (d - 1) = z at *
    refine Ev_run t_ref04_Light rfl rfl ?_
    by_cases hz : 0 ≤ z
    · rw [if_pos hz] at h0
      try simp (maxSteps := 1000000) (disch := first | omega | (simp only [lens, List.length_map]; omega)) only [go_sem, ↓reduceIte, Nat.reduceSub, Nat.reduceAdd, Nat.reduceMul, Nat.reduceLeDiff, Nat.reduceLT, Nat.reduceEqDiff, Nat.reduceBEq, Int.reduceLE, Int.reduceLT, Int.reduceEq, Int.reduceNeg, Int.reduceAdd, Int.reduceSub, Int.reduceMul, Int.reduceToNat, e0] at h0
      simp (maxSteps := 1000000) (disch := first | omega | (simp only [lens, List.length_map]; omega)) only [go_sem, ↓reduceIte, Nat.reduceSub, Nat.reduceAdd, Nat.reduceMul, Nat.reduceLeDiff, Nat.reduceLT, Nat.reduceEqDiff, Nat.reduceBEq, Int.reduceLE, Int.reduceLT, Int.reduceEq, Int.reduceNeg, Int.reduceAdd, Int.reduceSub, Int.reduceMul, Int.reduceToNat, i_ref04_Light, h0]
    · rw [if_neg hz] at h0
      have : z = -1 := by omega
      subst this
      try simp (maxSteps := 1000000) (disch := first | omega | (simp only [lens, List.length_map]; omega)) only [go_sem, ↓reduceIte, Nat.reduceSub, Nat.reduceAdd, Nat.reduceMul, Nat.reduceLeDiff, Nat.reduceLT, Nat.reduceEqDiff, Nat.reduceBEq, Int.reduceLE, Int.reduceLT, Int.reduceEq, Int.reduceNeg, Int.reduceAdd, Int.reduceSub, Int.reduceMul, Int.reduceToNat, e0] at h0
      simp (maxSteps := 1000000) (disch := first | omega | (simp only [lens, List.length_map]; omega)) only [go_sem, ↓reduceIte, Nat.reduceSub, Nat.reduceAdd, Nat.reduceMul, Nat.reduceLeDiff, Nat.reduceLT, Nat.reduceEqDiff, Nat.reduceBEq, Int.reduceLE, Int.reduceLT, Int.reduceEq, Int.reduceNeg, Int.reduceAdd, Int.reduceSub, Int.reduceMul, Int.reduceToNat, i_ref04_Light, h0]
/-! ### The same? -/
mutual
def T.same : T → T → Bool
  | .mk k a b c l, .mk k' a' b' c' l' => decide (k = k') && (a == a') && (b == b') && (c == c') && decide (l.length = l'.length) && sameL l l'
def sameL : List T → List T → Bool
  | [], [] => true
  | t :: l, u :: m => t.same u && sameL l m
  | _, _ => true
end
theorem same_eq (t u : T) : t.same u = (decide (t.kind = u.kind) && (t.key == u.key) && (t.value == u.value) && (t.digest == u.digest) && decide (t.kids.length = u.kids.length) && sameL t.kids u.kids) := by cases t; cases u; simp only [T.same]; rfl
mutual
theorem same_refl : ∀ t : T, t.same t = true
  | .mk k a b c l => by
    have := sameL_refl l
    simp [T.same, this]
theorem sameL_refl : ∀ l : List T, sameL l l = true
  | [] => rfl
  | t :: l => by
    have h1 := same_refl t
    have h2 := sameL_refl l
    simp only [sameL, h1, h2, Bool.and_self]
end
mutual
theorem same_imp : ∀ t u : T, t.same u = true → t = u
  | .mk k a b c l, .mk k' a' b' c' l', h => by
    simp only [T.same, Bool.and_eq_true, decide_eq_true_eq, beq_iff_eq] at h
    obtain ⟨⟨⟨⟨⟨rfl, rfl⟩, rfl⟩, rfl⟩, hl⟩, hs⟩ := h
    rw [sameL_imp l l' hl hs]
theorem sameL_imp : ∀ l m : List T, l.length = m.length → sameL l m = true → l = m
  | [], [], _, _ => rfl
  | [], _ :: _, h, _ => by simp at h
  | _ :: _, [], h, _ => by simp at h
  | t :: l, u :: m, h, hs => by
    simp only [sameL, Bool.and_eq_true] at hs
    rw [same_imp t u hs.1, sameL_imp l m (by simpa using h) hs.2]
end
theorem same_loop (t u : T) (hl : t.kids.length = u.kids.length) (hb : t.kids.length ≤ 1048576) (hk : ∀ k ∈ t.kids, ∀ q, q.size ≤ 1048576 → Ev tab G0 n_ref04_Same [avT k, avT q] [] = some ([bo (k.same q)], [])) (hq : ∀ q ∈ u.kids, q.size ≤ 1048576) : ∀ (n i : Nat), n + i = t.kids.length → L_ref04_Same_0 (s_ref04_Same_K0 (.ptr 0 0) (.ptr 1 0) (i64 i) [some (oT t), some (oT u)]) = if sameL (t.kids.drop i) (u.kids.drop i) = true then some (.exit 0, s_ref04_Same_J0 [none, none]) else some (.ret, s_ref04_Same_R (bo false) [none, none])
  | 0, i, h => by
    rw [List.drop_of_length_le (by omega), List.drop_of_length_le (by omega), L_ref04_Same_0_eq, sameL, if_pos rfl]
    simp (maxSteps := 1000000) (disch := first | omega | (simp only [lens, List.length_map]; omega)) only [go_sem, ↓reduceIte, Nat.reduceSub, Nat.reduceAdd, Nat.reduceMul, Nat.reduceLeDiff, Nat.reduceLT, Nat.reduceEqDiff, Nat.reduceBEq, Int.reduceLE, Int.reduceLT, Int.reduceEq, Int.reduceNeg, Int.reduceAdd, Int.reduceSub, Int.reduceMul, Int.reduceToNat, i_ref04_Same_b0]
  | n + 1, i, h => by
    have ih := same_loop t u hl hb hk hq n (i + 1) (by omega)
    have h1 := hk _ (getD_mem' (d := .no) (i := i) (by omega)) (u.kids.getD i .no) (hq _ (getD_mem' (by omega)))
    rw [drop_step (l := t.kids) (d := .no) (by omega), drop_step (l := u.kids) (d := .no) (by omega), L_ref04_Same_0_eq, sameL]
    generalize hd : t.kids.getD i .no = k at *
    generalize hd2 : u.kids.getD i .no = q at *
    try simp (maxSteps := 1000000) (disch := first | omega | (simp only [lens, List.length_map]; omega)) only [go_sem, ↓reduceIte, Nat.reduceSub, Nat.reduceAdd, Nat.reduceMul, Nat.reduceLeDiff, Nat.reduceLT, Nat.reduceEqDiff, Nat.reduceBEq, Int.reduceLE, Int.reduceLT, Int.reduceEq, Int.reduceNeg, Int.reduceAdd, Int.reduceSub, Int.reduceMul, Int.reduceToNat] at ih
    cases hf : k.same q
    · rw [hf] at h1
      rw [Bool.false_and, if_neg (by simp)]
      simp (maxSteps := 1000000) (disch := first | omega | (simp only [lens, List.length_map]; omega)) only [go_sem, ↓reduceIte, Nat.reduceSub, Nat.reduceAdd, Nat.reduceMul, Nat.reduceLeDiff, Nat.reduceLT, Nat.reduceEqDiff, Nat.reduceBEq, Int.reduceLE, Int.reduceLT, Int.reduceEq, Int.reduceNeg, Int.reduceAdd, Int.reduceSub, Int.reduceMul, Int.reduceToNat, i_ref04_Same_b0, hd, hd2, h1]
    · rw [hf] at h1
      rw [Bool.true_and]
      simp (maxSteps := 1000000) (disch := first | omega | (simp only [lens, List.length_map]; omega)) only [go_sem, ↓reduceIte, Nat.reduceSub, Nat.reduceAdd, Nat.reduceMul, Nat.reduceLeDiff, Nat.reduceLT, Nat.reduceEqDiff, Nat.reduceBEq, Int.reduceLE, Int.reduceLT, Int.reduceEq, Int.reduceNeg, Int.reduceAdd, Int.reduceSub, Int.reduceMul, Int.reduceToNat, i_ref04_Same_b0, hd, hd2, h1, ih]
theorem ref04_Same_ev : ∀ (t u : T), t.size ≤ 1048576 → u.size ≤ 1048576 → Ev tab G0 n_ref04_Same [avT t, avT u] [] = some ([bo (t.same u)], []) := T_ind fun t ih u hs hu => by
  have hl := kids_len t
  have hl2 := kids_len u
  rw [same_eq]
  refine Ev_run t_ref04_Same rfl rfl ?_
  by_cases c1 : t.kind = u.kind
  · by_cases c2 : t.key = u.key
    · by_cases c3 : t.value = u.value
      · by_cases c4 : t.digest = u.digest
        · by_cases c5 : t.kids.length = u.kids.length
          · have hk : ∀ k ∈ t.kids, ∀ q, q.size ≤ 1048576 → Ev tab G0 n_ref04_Same [avT k, avT q] [] = some ([bo (k.same q)], []) := fun k hk q hq => ih k hk q (by have := size_kid hk; omega) hq
            have h0 := same_loop t u c5 (by omega) hk (fun q hq => by have := size_kid hq; omega) t.kids.length 0 (by omega)
            have e0 : ((0 : Nat) : Int) = 0 := rfl
            have r1 := beq_self_eq_true t.key
            have r2 := beq_self_eq_true t.value
            have r3 := beq_self_eq_true t.digest
            have r4 : decide (t.kids.length = u.kids.length) = true := decide_eq_true c5
            have hu2 : oT u = .var [i64 u.kind, .sl true (eB t.key), .sl true (eB t.value), .sl true (eB t.digest), .sl true (eT u.kids)] := by rw [c2, c3, c4]
            rw [List.drop_zero, List.drop_zero, hu2] at h0
            rw [← c2, ← c3, ← c4, r1, r2, r3, r4, decide_eq_true c1]
            simp only [Bool.true_and]
            cases hf : sameL t.kids u.kids
            · rw [hf, if_neg (by simp)] at h0
              try simp (maxSteps := 1000000) (disch := first | omega | (simp only [lens, List.length_map]; omega)) only [go_sem, ↓reduceIte, Nat.reduceSub, Nat.reduceAdd, Nat.reduceMul, Nat.reduceLeDiff, Nat.reduceLT, Nat.reduceEqDiff, Nat.reduceBEq, Int.reduceLE, Int.reduceLT, Int.reduceEq, Int.reduceNeg, Int.reduceAdd, Int.reduceSub, Int.reduceMul, Int.reduceToNat, e0] at h0
              simp (maxSteps := 1000000) (disch := first | omega | (simp only [lens, List.length_map]; omega)) only [go_sem, ↓reduceIte, Nat.reduceSub, Nat.reduceAdd, Nat.reduceMul, Nat.reduceLeDiff, Nat.reduceLT, Nat.reduceEqDiff, Nat.reduceBEq, Int.reduceLE, Int.reduceLT, Int.reduceEq, Int.reduceNeg, Int.reduceAdd, Int.reduceSub, Int.reduceMul, Int.reduceToNat, i_ref04_Same, ← c2, ← c3, ← c4, r1, r2, r3, h0]
            · rw [hf, if_pos rfl] at h0
              try simp (maxSteps := 1000000) (disch := first | omega | (simp only [lens, List.length_map]; omega)) only [go_sem, ↓reduceIte, Nat.reduceSub, Nat.reduceAdd, Nat.reduceMul, Nat.reduceLeDiff, Nat.reduceLT, Nat.reduceEqDiff, Nat.reduceBEq, Int.reduceLE, Int.reduceLT, Int.reduceEq, Int.reduceNeg, Int.reduceAdd, Int.reduceSub, Int.reduceMul, Int.reduceToNat, e0] at h0
              simp (maxSteps := 1000000) (disch := first | omega | (simp only [lens, List.length_map]; omega)) only [go_sem, ↓reduceIte, Nat.reduceSub, Nat.reduceAdd, Nat.reduceMul, Nat.reduceLeDiff, Nat.reduceLT, Nat.reduceEqDiff, Nat.reduceBEq, Int.reduceLE, Int.reduceLT, Int.reduceEq, Int.reduceNeg, Int.reduceAdd, Int.reduceSub, Int.reduceMul, Int.reduceToNat, i_ref04_Same, ← c2, ← c3, ← c4, r1, r2, r3, h0]
          · have r4 : decide (t.kids.length = u.kids.length) = false := decide_eq_false c5
            have r1 := beq_self_eq_true t.key
            have r2 := beq_self_eq_true t.value
            have r3 := beq_self_eq_true t.digest
            rw [r4]
            simp only [Bool.and_false, Bool.false_and]
            simp (maxSteps := 1000000) (disch := first | omega | (simp only [lens, List.length_map]; omega)) only [go_sem, ↓reduceIte, Nat.reduceSub, Nat.reduceAdd, Nat.reduceMul, Nat.reduceLeDiff, Nat.reduceLT, Nat.reduceEqDiff, Nat.reduceBEq, Int.reduceLE, Int.reduceLT, Int.reduceEq, Int.reduceNeg, Int.reduceAdd, Int.reduceSub, Int.reduceMul, Int.reduceToNat, i_ref04_Same, ← c2, ← c3, ← c4, r1, r2, r3]
        · have q4 : (t.digest == u.digest) = false := by simp [c4]
          have r1 := beq_self_eq_true t.key
          have r2 := beq_self_eq_true t.value
          rw [q4]
          simp only [Bool.and_false, Bool.false_and]
          simp (maxSteps := 1000000) (disch := first | omega | (simp only [lens, List.length_map]; omega)) only [go_sem, ↓reduceIte, Nat.reduceSub, Nat.reduceAdd, Nat.reduceMul, Nat.reduceLeDiff, Nat.reduceLT, Nat.reduceEqDiff, Nat.reduceBEq, Int.reduceLE, Int.reduceLT, Int.reduceEq, Int.reduceNeg, Int.reduceAdd, Int.reduceSub, Int.reduceMul, Int.reduceToNat, i_ref04_Same, ← c2, ← c3, r1, r2, q4]
      · have q3 : (t.value == u.value) = false := by simp [c3]
        have r1 := beq_self_eq_true t.key
        rw [q3]
        simp only [Bool.and_false, Bool.false_and]
        simp (maxSteps := 1000000) (disch := first | omega | (simp only [lens, List.length_map]; omega)) only [go_sem, ↓reduceIte, Nat.reduceSub, Nat.reduceAdd, Nat.reduceMul, Nat.reduceLeDiff, Nat.reduceLT, Nat.reduceEqDiff, Nat.reduceBEq, Int.reduceLE, Int.reduceLT, Int.reduceEq, Int.reduceNeg, Int.reduceAdd, Int.reduceSub, Int.reduceMul, Int.reduceToNat, i_ref04_Same, ← c2, r1, q3]
    · have q2 : (t.key == u.key) = false := by simp [c2]
      rw [q2]
      simp only [Bool.and_false, Bool.false_and]
      simp (maxSteps := 1000000) (disch := first | omega | (simp only [lens, List.length_map]; omega)) only [go_sem, ↓reduceIte, Nat.reduceSub, Nat.reduceAdd, Nat.reduceMul, Nat.reduceLeDiff, Nat.reduceLT, Nat.reduceEqDiff, Nat.reduceBEq, Int.reduceLE, Int.reduceLT, Int.reduceEq, Int.reduceNeg, Int.reduceAdd, Int.reduceSub, Int.reduceMul, Int.reduceToNat, i_ref04_Same, q2]
  · rw [decide_eq_false c1]
    simp only [Bool.and_false, Bool.false_and]
    simp (maxSteps := 1000000) (disch := first | omega | (simp only [lens, List.length_map]; omega)) only [go_sem, ↓reduceIte, Nat.reduceSub, Nat.reduceAdd, Nat.reduceMul, Nat.reduceLeDiff, Nat.reduceLT, Nat.reduceEqDiff, Nat.reduceBEq, Int.reduceLE, Int.reduceLT, Int.reduceEq, Int.reduceNeg, Int.reduceAdd, Int.reduceSub, Int.reduceMul, Int.reduceToNat, i_ref04_Same]
theorem ref04_Same_self (t : T) (h : t.size ≤ 1048576) : Ev tab G0 n_ref04_Same [avT t, avT t] [] = some ([bo true], []) := by
  have := ref04_Same_ev t t h h
  rwa [same_refl] at this

end Go.Proofs.YtdngljdbgepaiaaGreatDoor
