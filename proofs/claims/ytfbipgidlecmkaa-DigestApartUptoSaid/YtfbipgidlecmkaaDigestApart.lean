/-
  DigestApart: the law, by the evaluator.
-/
import Derived.Test.YtfbipgidlecmkaaLDigest
import Derived.Test.YtfbipgidlecmkaaLBack
set_option linter.unusedSimpArgs false
set_option linter.unusedVariables false
set_option maxRecDepth 200000
set_option maxHeartbeats 4000000
namespace Go.Proofs.Ytfbipgidlecmkaa
open Go.Ev

theorem byts_inj {a b x y : List UInt8} (ha : a.length ≤ 1048576) (hb : b.length ≤ 1048576) (h : byts a ++ x = byts b ++ y) : a = b ∧ x = y := by
  have h1 := read_byts a (by omega) 1048576 (by omega) x
  have h2 := read_byts b (by omega) 1048576 (by omega) y
  rw [h, h2] at h1
  simp only [Prod.mk.injEq, Rd.mk.injEq] at h1
  exact ⟨h1.1.symm, h1.2.1.symm⟩
theorem apart_loop (w : Int) (hw : 1 ≤ w ∧ w ≤ 32) (a b c d : List UInt8) (hc : c.length ≤ 1048576 ∧ d.length ≤ 1048576) : ∀ (n i : Nat) (x y : List UInt8), (x.length : Int) = w → (y.length : Int) = w → (n : Int) + i = w →
    ∃ x' y' : List UInt8, (x'.length : Int) = w ∧ (y'.length : Int) = w ∧ L_law03_DigestApart_0 (s_law03_DigestApart_K0 (i64 w) (.sl true (eB a)) (.sl true (eB b)) (.sl true (eB c)) (.sl true (eB d)) (bo true) (.row 0 x.length) (.row 1 y.length) (i64 i) [some (.row ty_uint8 1 true false (eB x)), some (.row ty_uint8 1 true false (eB y))]) = some (.exit 0, s_law03_DigestApart_J0 (i64 w) (.sl true (eB a)) (.sl true (eB b)) (bo true) (.row 0 x'.length) (.row 1 y'.length) [some (.row ty_uint8 1 true false (eB x')), some (.row ty_uint8 1 true false (eB y'))])
  | 0, i, x, y, hx, hy, h => by
    refine ⟨x, y, hx, hy, ?_⟩
    rw [L_law03_DigestApart_0_eq]
    simp (maxSteps := 1000000) (disch := first | omega | (simp only [List.length_cons, List.length_nil, List.length_append, List.length_map, List.length_take, List.length_drop]; omega)) only [go_sem, ↓reduceIte, Nat.reduceSub, Nat.reduceAdd, Nat.reduceMul, Nat.reduceLeDiff, Nat.reduceLT, Nat.reduceEqDiff, Nat.reduceBEq, Int.reduceLE, Int.reduceLT, Int.reduceEq, Int.reduceNeg, Int.reduceAdd, Int.reduceSub, Int.reduceMul, Int.reduceToNat, i_law03_DigestApart_b0]
  | n + 1, i, x, y, hx, hy, h => by
    obtain ⟨x', y', h1, h2, ih⟩ := apart_loop w hw a b c d hc n (i + 1) (if i < c.length then x.set i (c.getD i 0) else x) (if i < d.length then y.set i (d.getD i 0) else y) (by split <;> simp [hx]) (by split <;> simp [hy]) (by omega)
    refine ⟨x', y', h1, h2, ?_⟩
    rw [L_law03_DigestApart_0_eq]
    have e1 : x.length = w.toNat := by omega
    have e2 : y.length = w.toNat := by omega
    by_cases hic : i < c.length
    · by_cases hid : i < d.length
      · rw [if_pos hic, if_pos hid] at ih
        try simp (maxSteps := 1000000) (disch := first | omega | (simp only [List.length_cons, List.length_nil, List.length_append, List.length_map, List.length_take, List.length_drop]; omega)) only [go_sem, ↓reduceIte, Nat.reduceSub, Nat.reduceAdd, Nat.reduceMul, Nat.reduceLeDiff, Nat.reduceLT, Nat.reduceEqDiff, Nat.reduceBEq, Int.reduceLE, Int.reduceLT, Int.reduceEq, Int.reduceNeg, Int.reduceAdd, Int.reduceSub, Int.reduceMul, Int.reduceToNat, List.length_set] at ih
        simp (maxSteps := 1000000) (disch := first | omega | (simp only [List.length_cons, List.length_nil, List.length_append, List.length_map, List.length_take, List.length_drop]; omega)) only [go_sem, ↓reduceIte, Nat.reduceSub, Nat.reduceAdd, Nat.reduceMul, Nat.reduceLeDiff, Nat.reduceLT, Nat.reduceEqDiff, Nat.reduceBEq, Int.reduceLE, Int.reduceLT, Int.reduceEq, Int.reduceNeg, Int.reduceAdd, Int.reduceSub, Int.reduceMul, Int.reduceToNat, i_law03_DigestApart_b0, ih, hic, hid]
      · rw [if_pos hic, if_neg hid] at ih
        try simp (maxSteps := 1000000) (disch := first | omega | (simp only [List.length_cons, List.length_nil, List.length_append, List.length_map, List.length_take, List.length_drop]; omega)) only [go_sem, ↓reduceIte, Nat.reduceSub, Nat.reduceAdd, Nat.reduceMul, Nat.reduceLeDiff, Nat.reduceLT, Nat.reduceEqDiff, Nat.reduceBEq, Int.reduceLE, Int.reduceLT, Int.reduceEq, Int.reduceNeg, Int.reduceAdd, Int.reduceSub, Int.reduceMul, Int.reduceToNat, List.length_set] at ih
        simp (maxSteps := 1000000) (disch := first | omega | (simp only [List.length_cons, List.length_nil, List.length_append, List.length_map, List.length_take, List.length_drop]; omega)) only [go_sem, ↓reduceIte, Nat.reduceSub, Nat.reduceAdd, Nat.reduceMul, Nat.reduceLeDiff, Nat.reduceLT, Nat.reduceEqDiff, Nat.reduceBEq, Int.reduceLE, Int.reduceLT, Int.reduceEq, Int.reduceNeg, Int.reduceAdd, Int.reduceSub, Int.reduceMul, Int.reduceToNat, i_law03_DigestApart_b0, ih, hic, hid]
    · by_cases hid : i < d.length
      · rw [if_neg hic, if_pos hid] at ih
        try simp (maxSteps := 1000000) (disch := first | omega | (simp only [List.length_cons, List.length_nil, List.length_append, List.length_map, List.length_take, List.length_drop]; omega)) only [go_sem, ↓reduceIte, Nat.reduceSub, Nat.reduceAdd, Nat.reduceMul, Nat.reduceLeDiff, Nat.reduceLT, Nat.reduceEqDiff, Nat.reduceBEq, Int.reduceLE, Int.reduceLT, Int.reduceEq, Int.reduceNeg, Int.reduceAdd, Int.reduceSub, Int.reduceMul, Int.reduceToNat, List.length_set] at ih
        simp (maxSteps := 1000000) (disch := first | omega | (simp only [List.length_cons, List.length_nil, List.length_append, List.length_map, List.length_take, List.length_drop]; omega)) only [go_sem, ↓reduceIte, Nat.reduceSub, Nat.reduceAdd, Nat.reduceMul, Nat.reduceLeDiff, Nat.reduceLT, Nat.reduceEqDiff, Nat.reduceBEq, Int.reduceLE, Int.reduceLT, Int.reduceEq, Int.reduceNeg, Int.reduceAdd, Int.reduceSub, Int.reduceMul, Int.reduceToNat, i_law03_DigestApart_b0, ih, hic, hid]
      · rw [if_neg hic, if_neg hid] at ih
        try simp (maxSteps := 1000000) (disch := first | omega | (simp only [List.length_cons, List.length_nil, List.length_append, List.length_map, List.length_take, List.length_drop]; omega)) only [go_sem, ↓reduceIte, Nat.reduceSub, Nat.reduceAdd, Nat.reduceMul, Nat.reduceLeDiff, Nat.reduceLT, Nat.reduceEqDiff, Nat.reduceBEq, Int.reduceLE, Int.reduceLT, Int.reduceEq, Int.reduceNeg, Int.reduceAdd, Int.reduceSub, Int.reduceMul, Int.reduceToNat, List.length_set] at ih
        simp (maxSteps := 1000000) (disch := first | omega | (simp only [List.length_cons, List.length_nil, List.length_append, List.length_map, List.length_take, List.length_drop]; omega)) only [go_sem, ↓reduceIte, Nat.reduceSub, Nat.reduceAdd, Nat.reduceMul, Nat.reduceLeDiff, Nat.reduceLT, Nat.reduceEqDiff, Nat.reduceBEq, Int.reduceLE, Int.reduceLT, Int.reduceEq, Int.reduceNeg, Int.reduceAdd, Int.reduceSub, Int.reduceMul, Int.reduceToNat, i_law03_DigestApart_b0, ih, hic, hid]
theorem law_DigestApart (w : Int) (a b c d : List UInt8) (hw : -9223372036854775808 ≤ w ∧ w < 9223372036854775808) (h : a.length + b.length + c.length + d.length ≤ 1048576) : ∃ outs, Ev tab G0 n_law03_DigestApart [i64 w, .sl true (eB a), .sl true (eB b), .sl true (eB c), .sl true (eB d)] [] = some ([bo true], outs) := by
  refine ⟨[], Ev_run t_law03_DigestApart rfl rfl ?_⟩
  have h0 := up03_ev
  have hm := may_ev w hw
  by_cases hd : 1 ≤ w ∧ w ≤ 32
  · rw [decide_eq_true hd] at hm
    obtain ⟨x, y, hx, hy, hl⟩ := apart_loop w hd a b c d (by omega) w.toNat 0 (List.replicate w.toNat 0) (List.replicate w.toNat 0) (by simp; omega) (by simp; omega) (by omega)
    rw [List.length_replicate] at hl
    have lx : x.length = w.toNat := by omega
    have ly : y.length = w.toNat := by omega
    have e0 : ((0 : Nat) : Int) = 0 := rfl
    have er : List.replicate w.toNat (e1 (byt 0)) = eB (List.replicate w.toNat 0) := by simp only [eB, List.map_replicate]; rfl
    have hz : (List.replicate w.toNat (0 : UInt8)).length = w.toNat := by simp
    generalize List.replicate w.toNat (0 : UInt8) = z at *
    try simp (maxSteps := 1000000) (disch := first | omega | (simp only [List.length_cons, List.length_nil, List.length_append, List.length_map, List.length_take, List.length_drop]; omega)) only [go_sem, ↓reduceIte, Nat.reduceSub, Nat.reduceAdd, Nat.reduceMul, Nat.reduceLeDiff, Nat.reduceLT, Nat.reduceEqDiff, Nat.reduceBEq, Int.reduceLE, Int.reduceLT, Int.reduceEq, Int.reduceNeg, Int.reduceAdd, Int.reduceSub, Int.reduceMul, Int.reduceToNat, e0] at hl
    have p := Pair_good w a x ⟨hd.1, hd.2, hx⟩ (by omega)
    have q := Pair_good w b y ⟨hd.1, hd.2, hy⟩ (by omega)
    have n := Node_good w x y x ⟨hd.1, hd.2, hx, hy, hx⟩
    have m := Node_good w y x x ⟨hd.1, hd.2, hy, hx, hx⟩
    have va := Value_ev a (by omega)
    have vb := Value_ev b (by omega)
    have nn := None_ev
    have j1 : (pairP a x = pairP b y) = (a = b ∧ x = y) := by
      apply propext
      constructor
      · intro hh
        simp only [pairP, List.cons.injEq, true_and] at hh
        exact byts_inj (by omega) (by omega) hh
      · rintro ⟨rfl, rfl⟩; rfl
    have j2 : (nodeP x y x = nodeP y x x) = (x = y) := by
      apply propext
      constructor
      · intro hh
        simp only [nodeP, List.cons.injEq, true_and] at hh
        exact (List.append_inj hh (by omega)).1
      · rintro rfl; rfl
    have j3 : (pairP a x = nodeP x y x) = False := by simp [pairP, nodeP]
    have j4 : (pairP a x = 0 :: a) = False := by simp [pairP]
    have j5 : (nodeP x y x = 0 :: b) = False := by simp [nodeP]
    have j6 : ([3] = pairP a x) = False := by simp [pairP]
    have j7 : ([3] = nodeP x y x) = False := by simp [nodeP]
    generalize pairP a x = P at *
    generalize pairP b y = Q at *
    generalize nodeP x y x = N at *
    generalize nodeP y x x = M at *
    have q2 : (N == M) = (x == y) := by rw [Bool.eq_iff_iff]; simp [j2]
    have q3 : (P == N) = false := by simp [j3]
    have q4 : (P == 0 :: a) = false := by simp [j4]
    have q5 : (N == 0 :: b) = false := by simp [j5]
    have q6 : ([3] == P) = false := by simp [j6]
    have q7 : ([3] == N) = false := by simp [j7]
    have q8 : (0 :: a == 0 :: b) = (a == b) := by simp
    by_cases hab : a = b
    · have k0 : (a == b) = true := by simp [hab]
      have k1 : (P == Q) = (x == y) := by rw [Bool.eq_iff_iff]; simp [j1, hab]
      simp (maxSteps := 1000000) (disch := first | omega | (simp only [List.length_cons, List.length_nil, List.length_append, List.length_map, List.length_take, List.length_drop]; omega)) only [go_sem, ↓reduceIte, Nat.reduceSub, Nat.reduceAdd, Nat.reduceMul, Nat.reduceLeDiff, Nat.reduceLT, Nat.reduceEqDiff, Nat.reduceBEq, Int.reduceLE, Int.reduceLT, Int.reduceEq, Int.reduceNeg, Int.reduceAdd, Int.reduceSub, Int.reduceMul, Int.reduceToNat, i_law03_DigestApart, h0, hm, hl, er, hz, p, q, n, m, va, vb, nn, lx, ly, k0, k1, q2, q3, q4, q5, q6, q7, q8, BEq.rfl, eq_self]
    · have k0 : (a == b) = false := by simp [hab]
      have k1 : (P == Q) = false := by simp [j1, hab]
      simp (maxSteps := 1000000) (disch := first | omega | (simp only [List.length_cons, List.length_nil, List.length_append, List.length_map, List.length_take, List.length_drop]; omega)) only [go_sem, ↓reduceIte, Nat.reduceSub, Nat.reduceAdd, Nat.reduceMul, Nat.reduceLeDiff, Nat.reduceLT, Nat.reduceEqDiff, Nat.reduceBEq, Int.reduceLE, Int.reduceLT, Int.reduceEq, Int.reduceNeg, Int.reduceAdd, Int.reduceSub, Int.reduceMul, Int.reduceToNat, i_law03_DigestApart, h0, hm, hl, er, hz, p, q, n, m, va, vb, nn, lx, ly, k0, k1, q2, q3, q4, q5, q6, q7, q8, BEq.rfl, eq_self]
  · rw [decide_eq_false hd] at hm
    simp (maxSteps := 1000000) (disch := first | omega | (simp only [List.length_cons, List.length_nil, List.length_append, List.length_map, List.length_take, List.length_drop]; omega)) only [go_sem, ↓reduceIte, Nat.reduceSub, Nat.reduceAdd, Nat.reduceMul, Nat.reduceLeDiff, Nat.reduceLT, Nat.reduceEqDiff, Nat.reduceBEq, Int.reduceLE, Int.reduceLT, Int.reduceEq, Int.reduceNeg, Int.reduceAdd, Int.reduceSub, Int.reduceMul, Int.reduceToNat, i_law03_DigestApart, h0, hm]

end Go.Proofs.Ytfbipgidlecmkaa
