/-
  ShaGoes: the law, by the evaluator.
-/
import Derived.Test.YtfbipgidlecmkaaDoorLSum
set_option linter.unusedSimpArgs false
set_option linter.unusedVariables false
set_option maxRecDepth 200000
set_option maxHeartbeats 4000000
namespace Go.Proofs.YtfbipgidlecmkaaDoor
open Go.Ev

theorem goes_loop (b all : List UInt8) (hb : all.length ≤ 1073741824) : ∀ (n i : Nat) (v : V8), all.length = 64 * (n + i) → L_law01_ShaGoes_0 (s_law01_ShaGoes_K0 (.sl true (eB b)) (.sl true (eB all)) (.ptr 1 0) (i64 (64 * i : Nat)) [none, some (oV v), none]) = some (.exit 0, s_law01_ShaGoes_J0 (.sl true (eB b)) (.sl true (eB all)) (.ptr 1 0) [none, some (oV (sumV tabK n v (all.drop (64 * i)))), none])
  | 0, i, v, h => by
    rw [L_law01_ShaGoes_0_eq]
    simp (maxSteps := 1000000) (disch := first | omega | (simp only [List.length_cons, List.length_nil, List.length_append, List.length_map, List.length_take, List.length_drop]; omega)) only [go_sem, ↓reduceIte, Nat.reduceSub, Nat.reduceAdd, Nat.reduceMul, Nat.reduceLeDiff, Nat.reduceLT, Nat.reduceEqDiff, Nat.reduceBEq, Int.reduceLE, Int.reduceLT, Int.reduceEq, Int.reduceNeg, Int.reduceAdd, Int.reduceSub, Int.reduceMul, Int.reduceToNat, i_law01_ShaGoes_b0, sumV]
  | n + 1, i, v, h => by
    have ih := goes_loop b all hb n (i + 1) (stp tabK v ((all.drop (64 * i)).take 64)) (by omega)
    have h1 := sha_Step_good v ((all.drop (64 * i)).take 64) (by simp; omega)
    have e1 : ((64 * i : Nat) : Int) + 64 = (64 * (i + 1) : Nat) := by omega
    have e2 : (all.take (64 * (i + 1))).drop (64 * i) = (all.drop (64 * i)).take 64 := by rw [List.drop_take, show 64 * (i + 1) - 64 * i = 64 by omega]
    have e3 : (all.drop (64 * i)).drop 64 = all.drop (64 * (i + 1)) := by rw [List.drop_drop, show 64 * i + 64 = 64 * (i + 1) by omega]
    have b0 : (0 : Int) ≤ (64 * i : Nat) ∧ ((64 * i : Nat) : Int) < all.length ∧ ((64 * (i + 1) : Nat) : Int) ≤ all.length ∧ ((64 * i : Nat) : Int) ≤ (64 * (i + 1) : Nat) ∧ (0 : Int) ≤ (64 * (i + 1) : Nat) := by omega
    rw [L_law01_ShaGoes_0_eq, sumV, e3]
    generalize stp tabK v ((all.drop (64 * i)).take 64) = w at *
    generalize sumV tabK n w (all.drop (64 * (i + 1))) = w2 at *
    generalize 64 * (i + 1) = p2 at *
    generalize 64 * i = p1 at *
    try simp (maxSteps := 1000000) (disch := first | omega | (simp only [List.length_cons, List.length_nil, List.length_append, List.length_map, List.length_take, List.length_drop]; omega)) only [go_sem, ↓reduceIte, Nat.reduceSub, Nat.reduceAdd, Nat.reduceMul, Nat.reduceLeDiff, Nat.reduceLT, Nat.reduceEqDiff, Nat.reduceBEq, Int.reduceLE, Int.reduceLT, Int.reduceEq, Int.reduceNeg, Int.reduceAdd, Int.reduceSub, Int.reduceMul, Int.reduceToNat] at ih
    try simp (maxSteps := 1000000) (disch := first | omega | (simp only [List.length_cons, List.length_nil, List.length_append, List.length_map, List.length_take, List.length_drop]; omega)) only [go_sem, ↓reduceIte, Nat.reduceSub, Nat.reduceAdd, Nat.reduceMul, Nat.reduceLeDiff, Nat.reduceLT, Nat.reduceEqDiff, Nat.reduceBEq, Int.reduceLE, Int.reduceLT, Int.reduceEq, Int.reduceNeg, Int.reduceAdd, Int.reduceSub, Int.reduceMul, Int.reduceToNat] at h1
    simp (maxSteps := 1000000) (disch := first | omega | (simp only [List.length_cons, List.length_nil, List.length_append, List.length_map, List.length_take, List.length_drop]; omega)) only [go_sem, ↓reduceIte, Nat.reduceSub, Nat.reduceAdd, Nat.reduceMul, Nat.reduceLeDiff, Nat.reduceLT, Nat.reduceEqDiff, Nat.reduceBEq, Int.reduceLE, Int.reduceLT, Int.reduceEq, Int.reduceNeg, Int.reduceAdd, Int.reduceSub, Int.reduceMul, Int.reduceToNat, i_law01_ShaGoes_b0, ih, h1, e1, e2]
theorem out_map (v : V8) : out32 v = (List.range 32).map (ob v) := by
  simp [List.range, List.range.loop, ob, wd, out32, w4]
theorem out_ob (v : V8) (i : Nat) (h : i < 32) : (out32 v).getD i 0 = ob v i := by
  rw [out_map]
  simp [List.getD, h]
theorem goes_loop1 (v : V8) : ∀ (n i : Nat), n + i = 32 → L_law01_ShaGoes_1 (s_law01_ShaGoes_K1 (.ptr 1 0) (.sl true (eB (out32 v))) (i64 i) [none, some (oV v), none]) = some (.exit 2, s_law01_ShaGoes_J2 [none, none, none])
  | 0, i, h => by
    obtain rfl : i = 32 := by omega
    rw [L_law01_ShaGoes_1_eq]
    simp (maxSteps := 1000000) (disch := first | omega | (simp only [List.length_cons, List.length_nil, List.length_append, List.length_map, List.length_take, List.length_drop]; omega)) only [go_sem, ↓reduceIte, Nat.reduceSub, Nat.reduceAdd, Nat.reduceMul, Nat.reduceLeDiff, Nat.reduceLT, Nat.reduceEqDiff, Nat.reduceBEq, Int.reduceLE, Int.reduceLT, Int.reduceEq, Int.reduceNeg, Int.reduceAdd, Int.reduceSub, Int.reduceMul, Int.reduceToNat, i_law01_ShaGoes_b1]
  | n + 1, i, h => by
    have ih := goes_loop1 v n (i + 1) (by omega)
    have hx := wd_av v (i / 4) (by omega)
    have e1 : ((i : Int) / 4).toNat = i / 4 := by omega
    have e2 : (24 - 8 * ((i : Int) % 4)).toNat = 24 - 8 * (i % 4) := by omega
    have e3 : IntKind.bits .u32 = 32 := rfl
    have e4 : ((ob v i).toNat : Int) = IntKind.wrap .u8 ((wd v (i / 4)).fdiv (2 ^ (min (24 - 8 * (i % 4)) 32))) := by
      rw [ob, toNat_byt]; simp [IntKind.wrap, IntKind.signed, IntKind.bits]
    have e5 := out_ob v i (by omega)
    have hl := out32_len v
    generalize out32 v = s at *
    rw [L_law01_ShaGoes_1_eq]
    try simp (maxSteps := 1000000) (disch := first | omega | (simp only [List.length_cons, List.length_nil, List.length_append, List.length_map, List.length_take, List.length_drop]; omega)) only [go_sem, ↓reduceIte, Nat.reduceSub, Nat.reduceAdd, Nat.reduceMul, Nat.reduceLeDiff, Nat.reduceLT, Nat.reduceEqDiff, Nat.reduceBEq, Int.reduceLE, Int.reduceLT, Int.reduceEq, Int.reduceNeg, Int.reduceAdd, Int.reduceSub, Int.reduceMul, Int.reduceToNat] at ih
    simp (maxSteps := 1000000) (disch := first | omega | (simp only [List.length_cons, List.length_nil, List.length_append, List.length_map, List.length_take, List.length_drop]; omega)) only [go_sem, ↓reduceIte, Nat.reduceSub, Nat.reduceAdd, Nat.reduceMul, Nat.reduceLeDiff, Nat.reduceLT, Nat.reduceEqDiff, Nat.reduceBEq, Int.reduceLE, Int.reduceLT, Int.reduceEq, Int.reduceNeg, Int.reduceAdd, Int.reduceSub, Int.reduceMul, Int.reduceToNat, i_law01_ShaGoes_b1, ih, hl, e1, e2, e3, e5, hx, ← e4]
theorem goes_all (b : List UInt8) (hb : b.length ≤ 1048576) : ∃ v, L_law01_ShaGoes_0 (s_law01_ShaGoes_K0 (.sl true (eB b)) (.sl true (eB (b ++ tailB b.length))) (.ptr 1 0) (i64 0) [none, some (oV V1), none]) = some (.exit 0, s_law01_ShaGoes_J0 (.sl true (eB b)) (.sl true (eB (b ++ tailB b.length))) (.ptr 1 0) [none, some (oV v), none]) ∧ shaS b = out32 v ∧ (b ++ tailB b.length).length = 64 * nblk b.length := by
  have ht := tailB_len b.length
  have hn := nblk_eq b.length
  have ha : (b ++ tailB b.length).length = 64 * nblk b.length := by simp only [List.length_append, ht]; omega
  exact ⟨_, goes_loop b (b ++ tailB b.length) (by omega) (nblk b.length) 0 V1 (by omega), rfl, ha⟩
theorem law_ShaGoes (b : List UInt8) (hb : b.length ≤ 1048576) : ∃ outs, Ev tab G0 n_law01_ShaGoes [.sl true (eB b)] [] = some ([bo true], outs) := by
  have h0 := sha_First_ev
  refine ⟨[], Ev_run t_law01_ShaGoes rfl rfl ?_⟩
  by_cases hl : 20000 < b.length
  · have hb2 : (b.take 20000).length = 20000 := by simp; omega
    have h1 := sha_Sum_ev (b.take 20000) (by simp; omega)
    have h2 := sha_Tail_good (b.take 20000).length (by omega)
    obtain ⟨v, h3, h4, h5⟩ := goes_all (b.take 20000) (by omega)
    have h6 := goes_loop1 v 32 0 rfl
    have hs := out32_len v
    have e0 : ((0 : Nat) : Int) = 0 := rfl
    rw [h4] at h1
    rw [e0] at h6
    rw [hb2] at h2 h3 h5
    generalize out32 v = s at *
    have htl := tailB_len (20000 : Nat)
    generalize tailB (20000 : Nat) = tl at *
    have e2 : ((20000 : Nat) : Int) = 20000 := rfl
    generalize nblk 20000 = nb at *
    generalize hz : b.take 20000 ++ tl = z at *
    try simp (maxSteps := 1000000) (disch := first | omega | (simp only [List.length_cons, List.length_nil, List.length_append, List.length_map, List.length_take, List.length_drop]; omega)) only [go_sem, ↓reduceIte, Nat.reduceSub, Nat.reduceAdd, Nat.reduceMul, Nat.reduceLeDiff, Nat.reduceLT, Nat.reduceEqDiff, Nat.reduceBEq, Int.reduceLE, Int.reduceLT, Int.reduceEq, Int.reduceNeg, Int.reduceAdd, Int.reduceSub, Int.reduceMul, Int.reduceToNat] at h1
    try simp (maxSteps := 1000000) (disch := first | omega | (simp only [List.length_cons, List.length_nil, List.length_append, List.length_map, List.length_take, List.length_drop]; omega)) only [go_sem, ↓reduceIte, Nat.reduceSub, Nat.reduceAdd, Nat.reduceMul, Nat.reduceLeDiff, Nat.reduceLT, Nat.reduceEqDiff, Nat.reduceBEq, Int.reduceLE, Int.reduceLT, Int.reduceEq, Int.reduceNeg, Int.reduceAdd, Int.reduceSub, Int.reduceMul, Int.reduceToNat, e2] at h2
    try simp (maxSteps := 1000000) (disch := first | omega | (simp only [List.length_cons, List.length_nil, List.length_append, List.length_map, List.length_take, List.length_drop]; omega)) only [go_sem, ↓reduceIte, Nat.reduceSub, Nat.reduceAdd, Nat.reduceMul, Nat.reduceLeDiff, Nat.reduceLT, Nat.reduceEqDiff, Nat.reduceBEq, Int.reduceLE, Int.reduceLT, Int.reduceEq, Int.reduceNeg, Int.reduceAdd, Int.reduceSub, Int.reduceMul, Int.reduceToNat] at h3
    try simp (maxSteps := 1000000) (disch := first | omega | (simp only [List.length_cons, List.length_nil, List.length_append, List.length_map, List.length_take, List.length_drop]; omega)) only [go_sem, ↓reduceIte, Nat.reduceSub, Nat.reduceAdd, Nat.reduceMul, Nat.reduceLeDiff, Nat.reduceLT, Nat.reduceEqDiff, Nat.reduceBEq, Int.reduceLE, Int.reduceLT, Int.reduceEq, Int.reduceNeg, Int.reduceAdd, Int.reduceSub, Int.reduceMul, Int.reduceToNat] at h6
    have h7 : ((64 * nb : Nat) : Int) % 64 = 0 := by omega
    simp (maxSteps := 1000000) (disch := first | omega | (simp only [List.length_cons, List.length_nil, List.length_append, List.length_map, List.length_take, List.length_drop]; omega)) only [go_sem, ↓reduceIte, Nat.reduceSub, Nat.reduceAdd, Nat.reduceMul, Nat.reduceLeDiff, Nat.reduceLT, Nat.reduceEqDiff, Nat.reduceBEq, Int.reduceLE, Int.reduceLT, Int.reduceEq, Int.reduceNeg, Int.reduceAdd, Int.reduceSub, Int.reduceMul, Int.reduceToNat, i_law01_ShaGoes, h0, h1, h2, h3, h5, h6, h7, hs, hb2, hz]
  · have h1 := sha_Sum_ev b (by omega)
    have h2 := sha_Tail_good b.length (by omega)
    obtain ⟨v, h3, h4, h5⟩ := goes_all b (by omega)
    have h6 := goes_loop1 v 32 0 rfl
    have hs := out32_len v
    have e0 : ((0 : Nat) : Int) = 0 := rfl
    rw [h4] at h1
    rw [e0] at h6
    generalize out32 v = s at *
    have htl := tailB_len b.length
    generalize tailB b.length = tl at *
    generalize nblk b.length = nb at *
    generalize hz : b ++ tl = z at *
    try simp (maxSteps := 1000000) (disch := first | omega | (simp only [List.length_cons, List.length_nil, List.length_append, List.length_map, List.length_take, List.length_drop]; omega)) only [go_sem, ↓reduceIte, Nat.reduceSub, Nat.reduceAdd, Nat.reduceMul, Nat.reduceLeDiff, Nat.reduceLT, Nat.reduceEqDiff, Nat.reduceBEq, Int.reduceLE, Int.reduceLT, Int.reduceEq, Int.reduceNeg, Int.reduceAdd, Int.reduceSub, Int.reduceMul, Int.reduceToNat] at h3
    try simp (maxSteps := 1000000) (disch := first | omega | (simp only [List.length_cons, List.length_nil, List.length_append, List.length_map, List.length_take, List.length_drop]; omega)) only [go_sem, ↓reduceIte, Nat.reduceSub, Nat.reduceAdd, Nat.reduceMul, Nat.reduceLeDiff, Nat.reduceLT, Nat.reduceEqDiff, Nat.reduceBEq, Int.reduceLE, Int.reduceLT, Int.reduceEq, Int.reduceNeg, Int.reduceAdd, Int.reduceSub, Int.reduceMul, Int.reduceToNat] at h6
    have h7 : ((64 * nb : Nat) : Int) % 64 = 0 := by omega
    simp (maxSteps := 1000000) (disch := first | omega | (simp only [List.length_cons, List.length_nil, List.length_append, List.length_map, List.length_take, List.length_drop]; omega)) only [go_sem, ↓reduceIte, Nat.reduceSub, Nat.reduceAdd, Nat.reduceMul, Nat.reduceLeDiff, Nat.reduceLT, Nat.reduceEqDiff, Nat.reduceBEq, Int.reduceLE, Int.reduceLT, Int.reduceEq, Int.reduceNeg, Int.reduceAdd, Int.reduceSub, Int.reduceMul, Int.reduceToNat, i_law01_ShaGoes, h0, h1, h2, h3, h5, h6, h7, hs, hz]

end Go.Proofs.YtfbipgidlecmkaaDoor
