/-
  Preimages, by the evaluator.
-/
import Derived.Test.YtdngljdbgepaiaaGreatDoorLCoder
set_option linter.unusedSimpArgs false
set_option linter.unusedVariables false
set_option maxRecDepth 200000
set_option maxHeartbeats 4000000
namespace Go.Proofs.YtdngljdbgepaiaaGreatDoor
open Go.Ev

theorem Grow_ev (n : Int) (h : 0 < n ∧ n ≤ 1073741824) : Ev tab G0 n_slices_Grow_sl_byte_byte [.nilsl, i64 n] [] = some ([.row 0 0], [.row ty_uint8 1 true false (eB [])]) := by
  refine Ev_run t_slices_Grow_sl_byte_byte rfl rfl ?_
  simp (maxSteps := 1000000) (disch := first | omega | (simp only [lens, List.length_map]; omega)) only [go_sem, ↓reduceIte, Nat.reduceSub, Nat.reduceAdd, Nat.reduceMul, Nat.reduceLeDiff, Nat.reduceLT, Nat.reduceEqDiff, Nat.reduceBEq, Int.reduceLE, Int.reduceLT, Int.reduceEq, Int.reduceNeg, Int.reduceAdd, Int.reduceSub, Int.reduceMul, Int.reduceToNat, i_slices_Grow_sl_byte_byte, List.length_replicate, Int.sub_zero]
def catB (l : List (List UInt8)) : List UInt8 := l.flatten
def sumB : List (List UInt8) → Nat
  | [] => 0
  | b :: l => b.length + sumB l
theorem sumB_take_succ : ∀ (l : List (List UInt8)) (i : Nat), sumB (l.take (i + 1)) = sumB (l.take i) + (l.getD i []).length
  | [], i => by simp [sumB]
  | b :: l, 0 => by simp [sumB]
  | b :: l, i + 1 => by
    have := sumB_take_succ l i
    simp [sumB] at this ⊢
    omega
theorem flat_take_succ : ∀ (l : List (List UInt8)) (i : Nat), (l.take (i + 1)).flatten = (l.take i).flatten ++ l.getD i []
  | [], i => by simp
  | b :: l, 0 => by simp
  | b :: l, i + 1 => by
    have := flat_take_succ l i
    simp at this ⊢
    exact this
theorem flat_len : ∀ (l : List (List UInt8)), l.flatten.length = sumB l
  | [] => rfl
  | b :: l => by simp [sumB, flat_len l]
theorem sumB_take_le : ∀ (l : List (List UInt8)) (i : Nat), sumB (l.take i) ≤ sumB l
  | [], i => by simp
  | b :: l, 0 => by simp [sumB]
  | b :: l, i + 1 => by
    have := sumB_take_le l i
    simp [sumB]
    omega
theorem cat_loop0 (l : List (List UInt8)) (hl : l.length ≤ 1048576) (hs : sumB l ≤ 1073741824) : ∀ (n i : Nat), n + i = l.length → L_slices_Concat_sl_byte_byte_0 (s_slices_Concat_sl_byte_byte_K0 (.sl true (eBs l)) (i64 (sumB (l.take i))) (.sl true (eBs l)) (i64 l.length) (i64 i) [none, none]) = some (.exit 0, s_slices_Concat_sl_byte_byte_J0 (.sl true (eBs l)) (i64 (sumB l)) [none, none])
  | 0, i, h => by
    have e : l.take i = l := List.take_of_length_le (by omega)
    rw [L_slices_Concat_sl_byte_byte_0_eq, e]
    simp (maxSteps := 1000000) (disch := first | omega | (simp only [lens, List.length_map]; omega)) only [go_sem, ↓reduceIte, Nat.reduceSub, Nat.reduceAdd, Nat.reduceMul, Nat.reduceLeDiff, Nat.reduceLT, Nat.reduceEqDiff, Nat.reduceBEq, Int.reduceLE, Int.reduceLT, Int.reduceEq, Int.reduceNeg, Int.reduceAdd, Int.reduceSub, Int.reduceMul, Int.reduceToNat, i_slices_Concat_sl_byte_byte_b0]
  | n + 1, i, h => by
    have ih := cat_loop0 l hl hs n (i + 1) (by omega)
    have e := sumB_take_succ l i
    have e2 := sumB_take_le l i
    have e3 := sumB_take_le l (i + 1)
    rw [L_slices_Concat_sl_byte_byte_0_eq]
    generalize hb : l.getD i [] = b at *
    generalize sumB (l.take (i + 1)) = z at *
    generalize sumB (l.take i) = y at *
    subst e
    try simp (maxSteps := 1000000) (disch := first | omega | (simp only [lens, List.length_map]; omega)) only [go_sem, ↓reduceIte, Nat.reduceSub, Nat.reduceAdd, Nat.reduceMul, Nat.reduceLeDiff, Nat.reduceLT, Nat.reduceEqDiff, Nat.reduceBEq, Int.reduceLE, Int.reduceLT, Int.reduceEq, Int.reduceNeg, Int.reduceAdd, Int.reduceSub, Int.reduceMul, Int.reduceToNat] at ih
    simp (maxSteps := 1000000) (disch := first | omega | (simp only [lens, List.length_map]; omega)) only [go_sem, ↓reduceIte, Nat.reduceSub, Nat.reduceAdd, Nat.reduceMul, Nat.reduceLeDiff, Nat.reduceLT, Nat.reduceEqDiff, Nat.reduceBEq, Int.reduceLE, Int.reduceLT, Int.reduceEq, Int.reduceNeg, Int.reduceAdd, Int.reduceSub, Int.reduceMul, Int.reduceToNat, i_slices_Concat_sl_byte_byte_b0, hb, ih]
theorem cat_loop1 (l : List (List UInt8)) (hl : l.length ≤ 1048576) (hs : sumB l ≤ 1073741824) : ∀ (n i : Nat), n + i = l.length → L_slices_Concat_sl_byte_byte_1 (s_slices_Concat_sl_byte_byte_K1 (.row 0 (sumB (l.take i))) (.sl true (eBs l)) (i64 l.length) (i64 i) [some (.row ty_uint8 1 true false (eB (l.take i).flatten)), none]) = some (.exit 2, s_slices_Concat_sl_byte_byte_J2 (.row 0 (sumB l)) [some (.row ty_uint8 1 true false (eB l.flatten)), none])
  | 0, i, h => by
    have e : l.take i = l := List.take_of_length_le (by omega)
    rw [L_slices_Concat_sl_byte_byte_1_eq, e]
    simp (maxSteps := 1000000) (disch := first | omega | (simp only [lens, List.length_map]; omega)) only [go_sem, ↓reduceIte, Nat.reduceSub, Nat.reduceAdd, Nat.reduceMul, Nat.reduceLeDiff, Nat.reduceLT, Nat.reduceEqDiff, Nat.reduceBEq, Int.reduceLE, Int.reduceLT, Int.reduceEq, Int.reduceNeg, Int.reduceAdd, Int.reduceSub, Int.reduceMul, Int.reduceToNat, i_slices_Concat_sl_byte_byte_b1]
  | n + 1, i, h => by
    have ih := cat_loop1 l hl hs n (i + 1) (by omega)
    have e := sumB_take_succ l i
    have e2 := sumB_take_le l i
    have e3 := sumB_take_le l (i + 1)
    have e4 := flat_take_succ l i
    have e5 := flat_len (l.take i)
    have e6 := flat_len (l.take (i + 1))
    rw [L_slices_Concat_sl_byte_byte_1_eq]
    generalize hb : l.getD i [] = b at *
    generalize sumB (l.take (i + 1)) = z at *
    generalize sumB (l.take i) = y at *
    subst e
    generalize (l.take (i + 1)).flatten = fz at *
    generalize (l.take i).flatten = fy at *
    subst e4
    try simp (maxSteps := 1000000) (disch := first | omega | (simp only [lens, List.length_map]; omega)) only [go_sem, ↓reduceIte, Nat.reduceSub, Nat.reduceAdd, Nat.reduceMul, Nat.reduceLeDiff, Nat.reduceLT, Nat.reduceEqDiff, Nat.reduceBEq, Int.reduceLE, Int.reduceLT, Int.reduceEq, Int.reduceNeg, Int.reduceAdd, Int.reduceSub, Int.reduceMul, Int.reduceToNat] at ih
    try simp (maxSteps := 1000000) (disch := first | omega | (simp only [lens, List.length_map]; omega)) only [go_sem, ↓reduceIte, Nat.reduceSub, Nat.reduceAdd, Nat.reduceMul, Nat.reduceLeDiff, Nat.reduceLT, Nat.reduceEqDiff, Nat.reduceBEq, Int.reduceLE, Int.reduceLT, Int.reduceEq, Int.reduceNeg, Int.reduceAdd, Int.reduceSub, Int.reduceMul, Int.reduceToNat] at e6
    simp (maxSteps := 1000000) (disch := first | omega | (simp only [lens, List.length_map]; omega)) only [go_sem, ↓reduceIte, Nat.reduceSub, Nat.reduceAdd, Nat.reduceMul, Nat.reduceLeDiff, Nat.reduceLT, Nat.reduceEqDiff, Nat.reduceBEq, Int.reduceLE, Int.reduceLT, Int.reduceEq, Int.reduceNeg, Int.reduceAdd, Int.reduceSub, Int.reduceMul, Int.reduceToNat, i_slices_Concat_sl_byte_byte_b1, hb, ih, e5, e6]
theorem Concat_ev (l : List (List UInt8)) (hl : l.length ≤ 1048576) (hs : 0 < sumB l ∧ sumB l ≤ 1073741824) : Ev tab G0 n_slices_Concat_sl_byte_byte [.sl true (eBs l)] [] = some ([.sl true (eB l.flatten)], []) := by
  have h0 := cat_loop0 l hl hs.2 l.length 0 (by omega)
  have h1 := cat_loop1 l hl hs.2 l.length 0 (by omega)
  have h2 := Grow_ev (sumB l) (by omega)
  have h3 := flat_len l
  have e1 : sumB (l.take 0) = 0 := rfl
  have e2 : (l.take 0).flatten = [] := rfl
  have e0 : ((0 : Nat) : Int) = 0 := rfl
  rw [e1] at h0
  rw [e1, e2] at h1
  try simp (maxSteps := 1000000) (disch := first | omega | (simp only [lens, List.length_map]; omega)) only [go_sem, ↓reduceIte, Nat.reduceSub, Nat.reduceAdd, Nat.reduceMul, Nat.reduceLeDiff, Nat.reduceLT, Nat.reduceEqDiff, Nat.reduceBEq, Int.reduceLE, Int.reduceLT, Int.reduceEq, Int.reduceNeg, Int.reduceAdd, Int.reduceSub, Int.reduceMul, Int.reduceToNat, e0] at h0
  try simp (maxSteps := 1000000) (disch := first | omega | (simp only [lens, List.length_map]; omega)) only [go_sem, ↓reduceIte, Nat.reduceSub, Nat.reduceAdd, Nat.reduceMul, Nat.reduceLeDiff, Nat.reduceLT, Nat.reduceEqDiff, Nat.reduceBEq, Int.reduceLE, Int.reduceLT, Int.reduceEq, Int.reduceNeg, Int.reduceAdd, Int.reduceSub, Int.reduceMul, Int.reduceToNat, e0] at h1
  try simp (maxSteps := 1000000) (disch := first | omega | (simp only [lens, List.length_map]; omega)) only [go_sem, ↓reduceIte, Nat.reduceSub, Nat.reduceAdd, Nat.reduceMul, Nat.reduceLeDiff, Nat.reduceLT, Nat.reduceEqDiff, Nat.reduceBEq, Int.reduceLE, Int.reduceLT, Int.reduceEq, Int.reduceNeg, Int.reduceAdd, Int.reduceSub, Int.reduceMul, Int.reduceToNat] at h2
  refine Ev_run t_slices_Concat_sl_byte_byte rfl rfl ?_
  simp (maxSteps := 1000000) (disch := first | omega | (simp only [lens, List.length_map]; omega)) only [go_sem, ↓reduceIte, Nat.reduceSub, Nat.reduceAdd, Nat.reduceMul, Nat.reduceLeDiff, Nat.reduceLT, Nat.reduceEqDiff, Nat.reduceBEq, Int.reduceLE, Int.reduceLT, Int.reduceEq, Int.reduceNeg, Int.reduceAdd, Int.reduceSub, Int.reduceMul, Int.reduceToNat, i_slices_Concat_sl_byte_byte, h0, h1, h2, h3]
theorem eBs3 {a b c : List UInt8} : [[C.sl (eB a)], [C.sl (eB b)], [C.sl (eB c)]] = eBs [a, b, c] := rfl
theorem eBs4 {a b c d : List UInt8} : [[C.sl (eB a)], [C.sl (eB b)], [C.sl (eB c)], [C.sl (eB d)]] = eBs [a, b, c, d] := rfl
def pairP (k v : List UInt8) : List UInt8 := 1 :: (byts k ++ v)
def nodeP (a b c : List UInt8) : List UInt8 := 2 :: (a ++ (b ++ c))
theorem width_ev (w : Int) (h : -9223372036854775808 ≤ w ∧ w < 9223372036854775808) : Ev tab G0 n_digest_width [i64 w] [] = some ([bo (decide (1 ≤ w ∧ w ≤ 32))], []) := by
  refine Ev_run t_digest_width rfl rfl ?_
  simp (maxSteps := 1000000) (disch := first | omega | (simp only [lens, List.length_map]; omega)) only [go_sem, ↓reduceIte, Nat.reduceSub, Nat.reduceAdd, Nat.reduceMul, Nat.reduceLeDiff, Nat.reduceLT, Nat.reduceEqDiff, Nat.reduceBEq, Int.reduceLE, Int.reduceLT, Int.reduceEq, Int.reduceNeg, Int.reduceAdd, Int.reduceSub, Int.reduceMul, Int.reduceToNat, i_digest_width]
  (repeat' split) <;> first | rfl | (exfalso; omega) | (simp_all; done) | (simp_all; omega)
theorem Pair_good (w : Int) (k v : List UInt8) (h : 1 ≤ w ∧ w ≤ 32 ∧ (v.length : Int) = w) (hk : k.length ≤ 1048576) : Ev tab G0 n_digest_Pair [i64 w, .sl true (eB k), .sl true (eB v)] [] = some ([.sl true (eB (pairP k v)), .s .nilIface], []) := by
  have h1 := width_ev w (by omega)
  have hd : decide (1 ≤ w ∧ w ≤ 32) = true := decide_eq_true ⟨h.1, h.2.1⟩
  rw [hd] at h1
  have h2 := coder_Bytes_ev k (by omega)
  have h3 := byts_len k
  have h4 := Concat_ev [[1], byts k, v] (by simp) (by simp [sumB]; omega)
  have e : [[1], byts k, v].flatten = pairP k v := by simp [pairP]
  have e1 : byt 1 = 1 := rfl
  rw [e] at h4
  refine Ev_run t_digest_Pair rfl rfl ?_
  generalize byts k = y at *
  simp (maxSteps := 1000000) (disch := first | omega | (simp only [lens, List.length_map]; omega)) only [go_sem, ↓reduceIte, Nat.reduceSub, Nat.reduceAdd, Nat.reduceMul, Nat.reduceLeDiff, Nat.reduceLT, Nat.reduceEqDiff, Nat.reduceBEq, Int.reduceLE, Int.reduceLT, Int.reduceEq, Int.reduceNeg, Int.reduceAdd, Int.reduceSub, Int.reduceMul, Int.reduceToNat, i_digest_Pair, h1, h2, eBs3, h4, e1]
theorem Pair_bad (w : Int) (k v : List UInt8) (hw : -9223372036854775808 ≤ w ∧ w < 9223372036854775808) (h : ¬ (1 ≤ w ∧ w ≤ 32 ∧ (v.length : Int) = w)) (hk : v.length ≤ 1048576) : Ev tab G0 n_digest_Pair [i64 w, .sl true (eB k), .sl true (eB v)] [] = some ([.sl true [], errA 1], []) := by
  have h1 := width_ev w (by omega)
  refine Ev_run t_digest_Pair rfl rfl ?_
  by_cases hd : 1 ≤ w ∧ w ≤ 32
  · rw [decide_eq_true hd] at h1
    simp (maxSteps := 1000000) (disch := first | omega | (simp only [lens, List.length_map]; omega)) only [go_sem, ↓reduceIte, Nat.reduceSub, Nat.reduceAdd, Nat.reduceMul, Nat.reduceLeDiff, Nat.reduceLT, Nat.reduceEqDiff, Nat.reduceBEq, Int.reduceLE, Int.reduceLT, Int.reduceEq, Int.reduceNeg, Int.reduceAdd, Int.reduceSub, Int.reduceMul, Int.reduceToNat, i_digest_Pair, h1]
  · rw [decide_eq_false hd] at h1
    simp (maxSteps := 1000000) (disch := first | omega | (simp only [lens, List.length_map]; omega)) only [go_sem, ↓reduceIte, Nat.reduceSub, Nat.reduceAdd, Nat.reduceMul, Nat.reduceLeDiff, Nat.reduceLT, Nat.reduceEqDiff, Nat.reduceBEq, Int.reduceLE, Int.reduceLT, Int.reduceEq, Int.reduceNeg, Int.reduceAdd, Int.reduceSub, Int.reduceMul, Int.reduceToNat, i_digest_Pair, h1]
theorem Node_good (w : Int) (a b c : List UInt8) (h : 1 ≤ w ∧ w ≤ 32 ∧ (a.length : Int) = w ∧ (b.length : Int) = w ∧ (c.length : Int) = w) : Ev tab G0 n_digest_Node [i64 w, .sl true (eB a), .sl true (eB b), .sl true (eB c)] [] = some ([.sl true (eB (nodeP a b c)), .s .nilIface], []) := by
  have h1 := width_ev w (by omega)
  have hd : decide (1 ≤ w ∧ w ≤ 32) = true := decide_eq_true ⟨h.1, h.2.1⟩
  rw [hd] at h1
  have h4 := Concat_ev [[2], a, b, c] (by simp) (by simp [sumB]; omega)
  have e : [[2], a, b, c].flatten = nodeP a b c := by simp [nodeP]
  have e1 : byt 2 = 2 := rfl
  rw [e] at h4
  refine Ev_run t_digest_Node rfl rfl ?_
  simp (maxSteps := 1000000) (disch := first | omega | (simp only [lens, List.length_map]; omega)) only [go_sem, ↓reduceIte, Nat.reduceSub, Nat.reduceAdd, Nat.reduceMul, Nat.reduceLeDiff, Nat.reduceLT, Nat.reduceEqDiff, Nat.reduceBEq, Int.reduceLE, Int.reduceLT, Int.reduceEq, Int.reduceNeg, Int.reduceAdd, Int.reduceSub, Int.reduceMul, Int.reduceToNat, i_digest_Node, h1, eBs4, h4, e1]
theorem Value_ev (a : List UInt8) (h : a.length ≤ 1048576) : Ev tab G0 n_digest_Value [.sl true (eB a)] [] = some ([.sl true (eB (0 :: a))], []) := by
  have e1 : byt 0 = 0 := rfl
  refine Ev_run t_digest_Value rfl rfl ?_
  simp (maxSteps := 1000000) (disch := first | omega | (simp only [lens, List.length_map]; omega)) only [go_sem, ↓reduceIte, Nat.reduceSub, Nat.reduceAdd, Nat.reduceMul, Nat.reduceLeDiff, Nat.reduceLT, Nat.reduceEqDiff, Nat.reduceBEq, Int.reduceLE, Int.reduceLT, Int.reduceEq, Int.reduceNeg, Int.reduceAdd, Int.reduceSub, Int.reduceMul, Int.reduceToNat, i_digest_Value, e1]
theorem rValue_ev (a : List UInt8) (h : a.length ≤ 1048576) : Ev tab G0 n_ref03_Value [.sl true (eB a)] [] = some ([.sl true (eB (0 :: a))], []) := by
  have e1 : byt 0 = 0 := rfl
  refine Ev_run t_ref03_Value rfl rfl ?_
  simp (maxSteps := 1000000) (disch := first | omega | (simp only [lens, List.length_map]; omega)) only [go_sem, ↓reduceIte, Nat.reduceSub, Nat.reduceAdd, Nat.reduceMul, Nat.reduceLeDiff, Nat.reduceLT, Nat.reduceEqDiff, Nat.reduceBEq, Int.reduceLE, Int.reduceLT, Int.reduceEq, Int.reduceNeg, Int.reduceAdd, Int.reduceSub, Int.reduceMul, Int.reduceToNat, i_ref03_Value, e1]
theorem None_ev : Ev tab G0 n_digest_None [] [] = some ([.sl true (eB [3])], []) := by
  have e1 : byt 3 = 3 := rfl
  refine Ev_run t_digest_None rfl rfl ?_
  simp (maxSteps := 1000000) (disch := first | omega | (simp only [lens, List.length_map]; omega)) only [go_sem, ↓reduceIte, Nat.reduceSub, Nat.reduceAdd, Nat.reduceMul, Nat.reduceLeDiff, Nat.reduceLT, Nat.reduceEqDiff, Nat.reduceBEq, Int.reduceLE, Int.reduceLT, Int.reduceEq, Int.reduceNeg, Int.reduceAdd, Int.reduceSub, Int.reduceMul, Int.reduceToNat, i_digest_None, e1]
theorem rPair_ev (k v : List UInt8) (h : v.length ≤ 1048576 ∧ k.length ≤ 1048576) : Ev tab G0 n_ref03_Pair [.sl true (eB k), .sl true (eB v)] [] = some ([.sl true (eB (pairP k v))], []) := by
  have h2 := ref02_Bytes_ev k (by omega)
  have h3 := byts_len k
  have e1 : byt 1 = 1 := rfl
  have e : pairP k v = 1 :: (byts k ++ v) := rfl
  refine Ev_run t_ref03_Pair rfl rfl ?_
  generalize byts k = y at *
  simp (maxSteps := 1000000) (disch := first | omega | (simp only [lens, List.length_map]; omega)) only [go_sem, ↓reduceIte, Nat.reduceSub, Nat.reduceAdd, Nat.reduceMul, Nat.reduceLeDiff, Nat.reduceLT, Nat.reduceEqDiff, Nat.reduceBEq, Int.reduceLE, Int.reduceLT, Int.reduceEq, Int.reduceNeg, Int.reduceAdd, Int.reduceSub, Int.reduceMul, Int.reduceToNat, i_ref03_Pair, h2, e, e1, List.cons_append]
theorem rNode_ev (a b c : List UInt8) (h : a.length ≤ 1048576 ∧ b.length ≤ 1048576 ∧ c.length ≤ 1048576) : Ev tab G0 n_ref03_Node [.sl true (eB a), .sl true (eB b), .sl true (eB c)] [] = some ([.sl true (eB (nodeP a b c))], []) := by
  have e1 : byt 2 = 2 := rfl
  have e : nodeP a b c = 2 :: (a ++ (b ++ c)) := rfl
  refine Ev_run t_ref03_Node rfl rfl ?_
  simp (maxSteps := 1000000) (disch := first | omega | (simp only [lens, List.length_map]; omega)) only [go_sem, ↓reduceIte, Nat.reduceSub, Nat.reduceAdd, Nat.reduceMul, Nat.reduceLeDiff, Nat.reduceLT, Nat.reduceEqDiff, Nat.reduceBEq, Int.reduceLE, Int.reduceLT, Int.reduceEq, Int.reduceNeg, Int.reduceAdd, Int.reduceSub, Int.reduceMul, Int.reduceToNat, i_ref03_Node, e, e1, List.cons_append, List.append_assoc]
end Go.Proofs.YtdngljdbgepaiaaGreatDoor
