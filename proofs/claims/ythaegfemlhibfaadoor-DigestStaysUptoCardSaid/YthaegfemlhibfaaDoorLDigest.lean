/-
  Preimages, by the evaluator.
-/
import Derived.Test.YthaegfemlhibfaaDoorLCoder
set_option linter.unusedSimpArgs false
set_option linter.unusedVariables false
set_option maxRecDepth 200000
set_option maxHeartbeats 4000000
namespace Go.Proofs.YthaegfemlhibfaaDoor
open Go.Ev

theorem Grow_ev (n : Int) (h : 0 < n ∧ n ≤ 1073741824) : Ev tab G0 n_slices_Grow_sl_byte_byte [.nilsl, i64 n] [] = some ([.row 0 0], [.row ty_uint8 1 true false (eB [])]) := by
  refine Ev_run t_slices_Grow_sl_byte_byte rfl rfl ?_
  simp (maxSteps := 1000000) (disch := first | omega | (simp only [List.length_cons, List.length_nil, List.length_append, List.length_map, List.length_take, List.length_drop]; omega)) only [go_sem, ↓reduceIte, Nat.reduceSub, Nat.reduceAdd, Nat.reduceMul, Nat.reduceLeDiff, Nat.reduceLT, Nat.reduceEqDiff, Nat.reduceBEq, Int.reduceLE, Int.reduceLT, Int.reduceEq, Int.reduceNeg, Int.reduceAdd, Int.reduceSub, Int.reduceMul, Int.reduceToNat, i_slices_Grow_sl_byte_byte, List.length_replicate, Int.sub_zero]
def catB (l : List (List UInt8)) : List UInt8 := l.flatten
def sumB : List (List UInt8) → Nat
  | [] => 0
  | b :: l => b.length + sumB l
theorem getD_len_le : ∀ (l : List (List UInt8)) (i : Nat), (l.getD i []).length ≤ sumB l
  | [], i => by simp
  | b :: l, 0 => by simp [sumB]
  | b :: l, i + 1 => by
    have := getD_len_le l i
    simp [sumB] at this ⊢
    omega
theorem sumB_take_succ : ∀ (l : List (List UInt8)) (i : Nat), sumB (l.take (i + 1)) = sumB (l.take i) + (l.getD i []).length
  | [], i => by simp [sumB]
  | b :: l, 0 => by simp [sumB]
  | b :: l, i + 1 => by
    have := sumB_take_succ l i
    simp [sumB] at this ⊢
    omega
theorem flat_take_succ : ∀ (l : List (List UInt8)) (i : Nat), (l.take (i + 1)).flatten = (l.take i).flatten ++ l.getD i []
  | [], i => by simp
  | b :: l, 0 => by simp
  | b :: l, i + 1 => by
    have := flat_take_succ l i
    simp at this ⊢
    exact this
theorem flat_len : ∀ (l : List (List UInt8)), l.flatten.length = sumB l
  | [] => rfl
  | b :: l => by simp [sumB, flat_len l]
theorem sumB_take_le : ∀ (l : List (List UInt8)) (i : Nat), sumB (l.take i) ≤ sumB l
  | [], i => by simp
  | b :: l, 0 => by simp [sumB]
  | b :: l, i + 1 => by
    have := sumB_take_le l i
    simp [sumB]
    omega
theorem cat_loop0 (l : List (List UInt8)) (hl : l.length ≤ 1048576) (hs : sumB l ≤ 1073741824) : ∀ (n i : Nat), n + i = l.length → L_slices_Concat_sl_byte_byte_0 (s_slices_Concat_sl_byte_byte_K0 (.sl true (eBs l)) (i64 (sumB (l.take i))) (.sl true (eBs l)) (i64 l.length) (i64 i) [none, none]) = some (.exit 0, s_slices_Concat_sl_byte_byte_J0 (.sl true (eBs l)) (i64 (sumB l)) [none, none])
  | 0, i, h => by
    have e : l.take i = l := List.take_of_length_le (by omega)
    rw [L_slices_Concat_sl_byte_byte_0_eq, e]
    simp (maxSteps := 1000000) (disch := first | omega | (simp only [List.length_cons, List.length_nil, List.length_append, List.length_map, List.length_take, List.length_drop]; omega)) only [go_sem, ↓reduceIte, Nat.reduceSub, Nat.reduceAdd, Nat.reduceMul, Nat.reduceLeDiff, Nat.reduceLT, Nat.reduceEqDiff, Nat.reduceBEq, Int.reduceLE, Int.reduceLT, Int.reduceEq, Int.reduceNeg, Int.reduceAdd, Int.reduceSub, Int.reduceMul, Int.reduceToNat, i_slices_Concat_sl_byte_byte_b0]
  | n + 1, i, h => by
    have ih := cat_loop0 l hl hs n (i + 1) (by omega)
    have e := sumB_take_succ l i
    have e2 := sumB_take_le l i
    have e3 := sumB_take_le l (i + 1)
    rw [L_slices_Concat_sl_byte_byte_0_eq]
    generalize hb : l.getD i [] = b at *
    generalize sumB (l.take (i + 1)) = z at *
    generalize sumB (l.take i) = y at *
    subst e
    try simp (maxSteps := 1000000) (disch := first | omega | (simp only [List.length_cons, List.length_nil, List.length_append, List.length_map, List.length_take, List.length_drop]; omega)) only [go_sem, ↓reduceIte, Nat.reduceSub, Nat.reduceAdd, Nat.reduceMul, Nat.reduceLeDiff, Nat.reduceLT, Nat.reduceEqDiff, Nat.reduceBEq, Int.reduceLE, Int.reduceLT, Int.reduceEq, Int.reduceNeg, Int.reduceAdd, Int.reduceSub, Int.reduceMul, Int.reduceToNat] at ih
    simp (maxSteps := 1000000) (disch := first | omega | (simp only [List.length_cons, List.length_nil, List.length_append, List.length_map, List.length_take, List.length_drop]; omega)) only [go_sem, ↓reduceIte, Nat.reduceSub, Nat.reduceAdd, Nat.reduceMul, Nat.reduceLeDiff, Nat.reduceLT, Nat.reduceEqDiff, Nat.reduceBEq, Int.reduceLE, Int.reduceLT, Int.reduceEq, Int.reduceNeg, Int.reduceAdd, Int.reduceSub, Int.reduceMul, Int.reduceToNat, i_slices_Concat_sl_byte_byte_b0, hb, ih]
theorem cat_loop1 (l : List (List UInt8)) (hl : l.length ≤ 1048576) (hs : sumB l ≤ 1073741824) : ∀ (n i : Nat), n + i = l.length → L_slices_Concat_sl_byte_byte_1 (s_slices_Concat_sl_byte_byte_K1 (.row 0 (sumB (l.take i))) (.sl true (eBs l)) (i64 l.length) (i64 i) [some (.row ty_uint8 1 true false (eB (l.take i).flatten)), none]) = some (.exit 2, s_slices_Concat_sl_byte_byte_J2 (.row 0 (sumB l)) [some (.row ty_uint8 1 true false (eB l.flatten)), none])
  | 0, i, h => by
    have e : l.take i = l := List.take_of_length_le (by omega)
    rw [L_slices_Concat_sl_byte_byte_1_eq, e]
    simp (maxSteps := 1000000) (disch := first | omega | (simp only [List.length_cons, List.length_nil, List.length_append, List.length_map, List.length_take, List.length_drop]; omega)) only [go_sem, ↓reduceIte, Nat.reduceSub, Nat.reduceAdd, Nat.reduceMul, Nat.reduceLeDiff, Nat.reduceLT, Nat.reduceEqDiff, Nat.reduceBEq, Int.reduceLE, Int.reduceLT, Int.reduceEq, Int.reduceNeg, Int.reduceAdd, Int.reduceSub, Int.reduceMul, Int.reduceToNat, i_slices_Concat_sl_byte_byte_b1]
  | n + 1, i, h => by
    have ih := cat_loop1 l hl hs n (i + 1) (by omega)
    have e := sumB_take_succ l i
    have e2 := sumB_take_le l i
    have e3 := sumB_take_le l (i + 1)
    have e4 := flat_take_succ l i
    have e5 := flat_len (l.take i)
    have e6 := flat_len (l.take (i + 1))
    rw [L_slices_Concat_sl_byte_byte_1_eq]
    generalize hb : l.getD i [] = b at *
    generalize sumB (l.take (i + 1)) = z at *
    generalize sumB (l.take i) = y at *
    subst e
    generalize (l.take (i + 1)).flatten = fz at *
    generalize (l.take i).flatten = fy at *
    subst e4
    try simp (maxSteps := 1000000) (disch := first | omega | (simp only [List.length_cons, List.length_nil, List.length_append, List.length_map, List.length_take, List.length_drop]; omega)) only [go_sem, ↓reduceIte, Nat.reduceSub, Nat.reduceAdd, Nat.reduceMul, Nat.reduceLeDiff, Nat.reduceLT, Nat.reduceEqDiff, Nat.reduceBEq, Int.reduceLE, Int.reduceLT, Int.reduceEq, Int.reduceNeg, Int.reduceAdd, Int.reduceSub, Int.reduceMul, Int.reduceToNat] at ih
    try simp (maxSteps := 1000000) (disch := first | omega | (simp only [List.length_cons, List.length_nil, List.length_append, List.length_map, List.length_take, List.length_drop]; omega)) only [go_sem, ↓reduceIte, Nat.reduceSub, Nat.reduceAdd, Nat.reduceMul, Nat.reduceLeDiff, Nat.reduceLT, Nat.reduceEqDiff, Nat.reduceBEq, Int.reduceLE, Int.reduceLT, Int.reduceEq, Int.reduceNeg, Int.reduceAdd, Int.reduceSub, Int.reduceMul, Int.reduceToNat] at e6
    simp (maxSteps := 1000000) (disch := first | omega | (simp only [List.length_cons, List.length_nil, List.length_append, List.length_map, List.length_take, List.length_drop]; omega)) only [go_sem, ↓reduceIte, Nat.reduceSub, Nat.reduceAdd, Nat.reduceMul, Nat.reduceLeDiff, Nat.reduceLT, Nat.reduceEqDiff, Nat.reduceBEq, Int.reduceLE, Int.reduceLT, Int.reduceEq, Int.reduceNeg, Int.reduceAdd, Int.reduceSub, Int.reduceMul, Int.reduceToNat, i_slices_Concat_sl_byte_byte_b1, hb, ih, e5, e6]
theorem eBs3 {a b c : List UInt8} : [[C.sl (eB a)], [C.sl (eB b)], [C.sl (eB c)]] = eBs [a, b, c] := rfl
theorem eBs4 {a b c d : List UInt8} : [[C.sl (eB a)], [C.sl (eB b)], [C.sl (eB c)], [C.sl (eB d)]] = eBs [a, b, c, d] := rfl
def pairP (k v : List UInt8) : List UInt8 := 1 :: (byts k ++ v)
def nodeP (a b c : List UInt8) : List UInt8 := 2 :: (a ++ (b ++ c))
theorem width_ev (w : Int) (h : -9223372036854775808 ≤ w ∧ w < 9223372036854775808) : Ev tab G0 n_digest_width [i64 w] [] = some ([bo (decide (1 ≤ w ∧ w ≤ 32))], []) := by
  refine Ev_run t_digest_width rfl rfl ?_
  simp (maxSteps := 1000000) (disch := first | omega | (simp only [List.length_cons, List.length_nil, List.length_append, List.length_map, List.length_take, List.length_drop]; omega)) only [go_sem, ↓reduceIte, Nat.reduceSub, Nat.reduceAdd, Nat.reduceMul, Nat.reduceLeDiff, Nat.reduceLT, Nat.reduceEqDiff, Nat.reduceBEq, Int.reduceLE, Int.reduceLT, Int.reduceEq, Int.reduceNeg, Int.reduceAdd, Int.reduceSub, Int.reduceMul, Int.reduceToNat, i_digest_width]
  (repeat' split) <;> first | rfl | (exfalso; omega) | (simp_all; done) | (simp_all; omega)
theorem up03_ev : Ev tab G0 n_law03_up [] [] = some ([bo true], []) := Ev_by 12 (by kernel_rfl)

end Go.Proofs.YthaegfemlhibfaaDoor
