/-
  CoderReads: the law, by the evaluator.
-/
import Derived.Test.YtfbipgidlecmkaaLSim
set_option linter.unusedSimpArgs false
set_option linter.unusedVariables false
set_option maxRecDepth 200000
set_option maxHeartbeats 4000000
namespace Go.Proofs.Ytfbipgidlecmkaa
open Go.Ev

/-- A deed's cells. -/
def cD (d : Int × Int) : List C := [.sc (.int .i64 d.1), .sc (.int .i64 d.2)]
def eD (l : List (Int × Int)) : List (List C) := l.map cD
theorem eD_len {l : List (Int × Int)} : (eD l).length = l.length := by simp [eD]
theorem eD_sz {l : List (Int × Int)} : szOk 2 (eD l) = true := by simp [szOk, eD, cD]
theorem eD_get {l : List (Int × Int)} {i : Nat} (h : i < l.length) : (eD l)[i]? = some [.sc (.int .i64 (l.getD i (0, 0)).1), .sc (.int .i64 (l.getD i (0, 0)).2)] := by
  simp [eD, cD, List.getD, h]
attribute [go_sem] eD_len eD_sz eD_get
def pickI (c n : Int) : Int := if c < 0 then (-(c + 1)) % n else c % n
theorem law02_pick_ev (c : Int) (h : -9223372036854775808 ≤ c ∧ c < 9223372036854775808) : Ev tab G0 n_law02_pick [i64 c, i64 3] [] = some ([i64 (pickI c 3)], []) := by
  have e : 0 - (c + 1) = -(c + 1) := by omega
  refine Ev_run t_law02_pick rfl rfl ?_
  unfold pickI
  by_cases hc : c < 0
  · simp (maxSteps := 1000000) (disch := first | omega | (simp only [List.length_cons, List.length_nil, List.length_append, List.length_map, List.length_take, List.length_drop]; omega)) only [go_sem, ↓reduceIte, Nat.reduceSub, Nat.reduceAdd, Nat.reduceMul, Nat.reduceLeDiff, Nat.reduceLT, Nat.reduceEqDiff, Nat.reduceBEq, Int.reduceLE, Int.reduceLT, Int.reduceEq, Int.reduceNeg, Int.reduceAdd, Int.reduceSub, Int.reduceMul, Int.reduceToNat, i_law02_pick, hc, e]
  · simp (maxSteps := 1000000) (disch := first | omega | (simp only [List.length_cons, List.length_nil, List.length_append, List.length_map, List.length_take, List.length_drop]; omega)) only [go_sem, ↓reduceIte, Nat.reduceSub, Nat.reduceAdd, Nat.reduceMul, Nat.reduceLeDiff, Nat.reduceLT, Nat.reduceEqDiff, Nat.reduceBEq, Int.reduceLE, Int.reduceLT, Int.reduceEq, Int.reduceNeg, Int.reduceAdd, Int.reduceSub, Int.reduceMul, Int.reduceToNat, i_law02_pick, hc]
theorem pick_range (c : Int) : 0 ≤ pickI c 3 ∧ pickI c 3 < 3 := by unfold pickI; split <;> omega
theorem reads_round (l : List (Int × Int)) (hl : ∀ d ∈ l, (-9223372036854775808 ≤ d.1 ∧ d.1 < 9223372036854775808) ∧ -9223372036854775808 ≤ d.2 ∧ d.2 < 9223372036854775808) (hll : l.length ≤ 1048576) : ∀ (n : Nat) (i : Int) (r : Rd) (w : Rf), Sim r w → 0 ≤ i → (l.length : Int) - i ≤ n → ∃ r' w', Sim r' w' ∧ L_law02_CoderReads_0 (s_law02_CoderReads_K0 (.sl true (eD l)) (.ptr 0 0) (.ptr 1 0) (i64 i) [some (rO r), some (fO w), none]) = some (.exit 0, s_law02_CoderReads_J0 (.ptr 0 0) (.ptr 1 0) [some (rO r'), some (fO w'), none])
  | 0, i, r, w, hs, h0, h1 => by
    refine ⟨r, w, hs, ?_⟩
    rw [L_law02_CoderReads_0_eq]
    simp (maxSteps := 1000000) (disch := first | omega | (simp only [List.length_cons, List.length_nil, List.length_append, List.length_map, List.length_take, List.length_drop]; omega)) only [go_sem, ↓reduceIte, Nat.reduceSub, Nat.reduceAdd, Nat.reduceMul, Nat.reduceLeDiff, Nat.reduceLT, Nat.reduceEqDiff, Nat.reduceBEq, Int.reduceLE, Int.reduceLT, Int.reduceEq, Int.reduceNeg, Int.reduceAdd, Int.reduceSub, Int.reduceMul, Int.reduceToNat, i_law02_CoderReads_b0]
  | n + 1, i, r, w, hs, h0, h1 => by
    by_cases hi : i < l.length ∧ i < 100
    · have hd := hl (l.getD i.toNat (0, 0)) (by
        have : i.toNat < l.length := by omega
        rw [List.getD, List.getElem?_eq_getElem this]
        exact List.getElem_mem this)
      generalize hd0 : l.getD i.toNat (0, 0) = d at *
      have hp := law02_pick_ev d.1 hd.1
      have hpr := pick_range d.1
      generalize pickI d.1 3 = q at *
      have fin : ∀ (r1 : Rd) (w1 : Rf), Sim r1 w1 → Ev tab G0 n_coder_Reader_End [.ptr 0 0] [rO r1] = some ([errV w1.fin], [rO r1]) ∧ Ev tab G0 n_law00_Code [errV w1.fin] [] = some ([i64 w1.fin], []) ∧ Ev tab G0 n_ref02_Reader_End [.ptr 0 0] [fO w1] = some ([i64 w1.fin], [fO w1]) := fun r1 w1 h => by
        obtain ⟨e, e2⟩ := sim_fin h
        rw [e] at e2
        have := coder_End_ev r1 h.len
        rw [e] at this
        exact ⟨this, law00_Code_ev _ e2, ref02_End_ev w1 h.1⟩
      have hq : q = 0 ∨ q = 1 ∨ q = 2 := by omega
      rcases hq with rfl | rfl | rfl
      · obtain ⟨e, hs1⟩ := sim_num hs
        obtain ⟨r', w', hs2, ih⟩ := reads_round l hl hll n (i + 1) _ _ hs1 (by omega) (by omega)
        refine ⟨r', w', hs2, ?_⟩
        have k1 := coder_ReaderNumber_ev r hs.len
        have k2 := ref02_Number_r_ev w hs.1
        obtain ⟨k3, k4, k5⟩ := fin _ _ hs1
        rw [e] at k1
        rw [L_law02_CoderReads_0_eq]
        simp (maxSteps := 1000000) (disch := first | omega | (simp only [List.length_cons, List.length_nil, List.length_append, List.length_map, List.length_take, List.length_drop]; omega)) only [go_sem, ↓reduceIte, Nat.reduceSub, Nat.reduceAdd, Nat.reduceMul, Nat.reduceLeDiff, Nat.reduceLT, Nat.reduceEqDiff, Nat.reduceBEq, Int.reduceLE, Int.reduceLT, Int.reduceEq, Int.reduceNeg, Int.reduceAdd, Int.reduceSub, Int.reduceMul, Int.reduceToNat, i_law02_CoderReads_b0, hd0, hp, k1, k2, k3, k4, k5, ih]
      · obtain ⟨e, hs1, _⟩ := sim_byte hs
        obtain ⟨r', w', hs2, ih⟩ := reads_round l hl hll n (i + 1) _ _ hs1 (by omega) (by omega)
        refine ⟨r', w', hs2, ?_⟩
        have k1 := coder_Byte_ev r hs.len
        have k2 := ref02_Byte_ev w hs.1
        obtain ⟨k3, k4, k5⟩ := fin _ _ hs1
        rw [e] at k1
        rw [L_law02_CoderReads_0_eq]
        simp (maxSteps := 1000000) (disch := first | omega | (simp only [List.length_cons, List.length_nil, List.length_append, List.length_map, List.length_take, List.length_drop]; omega)) only [go_sem, ↓reduceIte, Nat.reduceSub, Nat.reduceAdd, Nat.reduceMul, Nat.reduceLeDiff, Nat.reduceLT, Nat.reduceEqDiff, Nat.reduceBEq, Int.reduceLE, Int.reduceLT, Int.reduceEq, Int.reduceNeg, Int.reduceAdd, Int.reduceSub, Int.reduceMul, Int.reduceToNat, i_law02_CoderReads_b0, hd0, hp, k1, k2, k3, k4, k5, ih]
      · obtain ⟨e, hs1⟩ := sim_bytes hs d.2
        obtain ⟨r', w', hs2, ih⟩ := reads_round l hl hll n (i + 1) _ _ hs1 (by omega) (by omega)
        refine ⟨r', w', hs2, ?_⟩
        have k1 := coder_ReaderBytes_ev r d.2 hd.2 hs.len
        have k2 := ref02_Bytes_r_ev w d.2 hd.2 hs.1
        obtain ⟨k3, k4, k5⟩ := fin _ _ hs1
        rw [e] at k1
        rw [L_law02_CoderReads_0_eq]
        simp (maxSteps := 1000000) (disch := first | omega | (simp only [List.length_cons, List.length_nil, List.length_append, List.length_map, List.length_take, List.length_drop]; omega)) only [go_sem, ↓reduceIte, Nat.reduceSub, Nat.reduceAdd, Nat.reduceMul, Nat.reduceLeDiff, Nat.reduceLT, Nat.reduceEqDiff, Nat.reduceBEq, Int.reduceLE, Int.reduceLT, Int.reduceEq, Int.reduceNeg, Int.reduceAdd, Int.reduceSub, Int.reduceMul, Int.reduceToNat, i_law02_CoderReads_b0, hd0, hp, k1, k2, k3, k4, k5, ih]
    · refine ⟨r, w, hs, ?_⟩
      rw [L_law02_CoderReads_0_eq]
      simp (maxSteps := 1000000) (disch := first | omega | (simp only [List.length_cons, List.length_nil, List.length_append, List.length_map, List.length_take, List.length_drop]; omega)) only [go_sem, ↓reduceIte, Nat.reduceSub, Nat.reduceAdd, Nat.reduceMul, Nat.reduceLeDiff, Nat.reduceLT, Nat.reduceEqDiff, Nat.reduceBEq, Int.reduceLE, Int.reduceLT, Int.reduceEq, Int.reduceNeg, Int.reduceAdd, Int.reduceSub, Int.reduceMul, Int.reduceToNat, i_law02_CoderReads_b0]
      split <;> rfl

theorem law_CoderReads (b : List UInt8) (l : List (Int × Int)) (hb : b.length ≤ 1048576) (hll : l.length ≤ 1048576) (hl : ∀ d ∈ l, (-9223372036854775808 ≤ d.1 ∧ d.1 < 9223372036854775808) ∧ -9223372036854775808 ≤ d.2 ∧ d.2 < 9223372036854775808) : ∃ outs, Ev tab G0 n_law02_CoderReads [.sl true (eB b), .sl true (eD l)] [] = some ([bo true], outs) := by
  have hs : Sim ⟨b, false⟩ ⟨b, 0, false⟩ := ⟨⟨by simp only; omega, Nat.zero_le _⟩, Nat.le_refl _, rfl, fun _ => rfl⟩
  obtain ⟨r', w', hs2, h1⟩ := reads_round l hl hll l.length 0 _ _ hs (by omega) (by omega)
  try simp (maxSteps := 1000000) (disch := first | omega | (simp only [List.length_cons, List.length_nil, List.length_append, List.length_map, List.length_take, List.length_drop]; omega)) only [go_sem, ↓reduceIte, Nat.reduceSub, Nat.reduceAdd, Nat.reduceMul, Nat.reduceLeDiff, Nat.reduceLT, Nat.reduceEqDiff, Nat.reduceBEq, Int.reduceLE, Int.reduceLT, Int.reduceEq, Int.reduceNeg, Int.reduceAdd, Int.reduceSub, Int.reduceMul, Int.reduceToNat, fO, rO] at h1
  have h0 := coder_NewReader_ev b (by omega)
  obtain ⟨e, e2⟩ := sim_fin hs2
  have k1 := coder_End_ev r' hs2.len
  rw [e] at k1 e2
  have k2 := law00_Code_ev _ e2
  have k3 := ref02_End_ev w' hs2.1
  have k4 := coder_Number_ev 248 (by omega)
  have e4 : num 248 = [248, 248] := by decide
  rw [e4] at k4
  refine ⟨[], Ev_run t_law02_CoderReads rfl rfl ?_⟩
  simp (maxSteps := 1000000) (disch := first | omega | (simp only [List.length_cons, List.length_nil, List.length_append, List.length_map, List.length_take, List.length_drop]; omega)) only [go_sem, ↓reduceIte, Nat.reduceSub, Nat.reduceAdd, Nat.reduceMul, Nat.reduceLeDiff, Nat.reduceLT, Nat.reduceEqDiff, Nat.reduceBEq, Int.reduceLE, Int.reduceLT, Int.reduceEq, Int.reduceNeg, Int.reduceAdd, Int.reduceSub, Int.reduceMul, Int.reduceToNat, i_law02_CoderReads, h0, h1, k1, k2, k3, k4]

end Go.Proofs.Ytfbipgidlecmkaa
