/-
  Trees out of bytes.
-/
import Derived.Test.YtkfaahjcncpmhaaLTree5
import Derived.Test.YtkfaahjcncpmhaaLSim
set_option linter.unusedSimpArgs false
set_option linter.unusedVariables false
set_option maxRecDepth 200000
set_option maxHeartbeats 4000000
namespace Go.Proofs.Ytkfaahjcncpmhaa
open Go.Ev

theorem Rd.bytes_le (r : Rd) (most : Int) : (r.bytes most).2.b.length ≤ r.b.length := by
  have h := r.num_le
  simp only [Rd.bytes]
  split
  · exact h.1
  · exact Nat.le_trans (Rd.take_le _ _).2.2 h.1
def Rd.kd (r : Rd) : Int := r.byte.1.toNat
theorem Rd.kd_le (r : Rd) : 0 ≤ r.kd ∧ r.kd < 256 := by
  have := r.byte.1.toNat_lt
  unfold Rd.kd
  omega
theorem coder_Byte_k (r : Rd) (h : r.b.length ≤ 1073741824) : Ev tab G0 n_coder_Reader_Byte [.ptr 0 0] [rO r] = some ([u8 r.kd], [rO r.byte.2]) := coder_Byte_ev r h
def hdT (r : Rd) : T × Rd :=
  if r.kd = 3 then (.mk 3 [] [] (r.byte.2.bytes 32).1 [], (r.byte.2.bytes 32).2)
  else if r.kd = 1 then (.mk 1 (r.byte.2.bytes 80).1 ((r.byte.2.bytes 80).2.bytes 1024).1 [] [], ((r.byte.2.bytes 80).2.bytes 1024).2)
  else if r.kd = 2 then (.mk 2 (r.byte.2.bytes 80).1 [] ((r.byte.2.bytes 80).2.bytes 32).1 [], ((r.byte.2.bytes 80).2.bytes 32).2)
  else (.mk r.kd [] [] [] [], r.byte.2)
theorem hdT_le (r : Rd) : (hdT r).2.b.length ≤ r.b.length := by
  have h1 := r.byte_le
  have h2 := r.byte.2.bytes_le 32
  have h3 := r.byte.2.bytes_le 80
  have h4 := (r.byte.2.bytes 80).2.bytes_le 1024
  have h5 := (r.byte.2.bytes 80).2.bytes_le 32
  unfold hdT
  split
  · simp only; omega
  · split
    · simp only; omega
    · split
      · simp only; omega
      · exact h1
def T.with (t : T) (l : List T) : T := .mk t.kind t.key t.value t.digest l
/-- What the reader reads, at most so deep; whether it was amiss. -/
def rdT : Nat → Rd → Bool → T × Rd × Bool
  | 0, r, bad =>
    if r.kd = 0 ∨ r.kd = 3 then ((hdT r).1, (hdT r).2, bad) else ((hdT r).1, (hdT r).2, true)
  | d + 1, r, bad =>
    if r.kd = 0 ∨ r.kd = 3 then ((hdT r).1, (hdT r).2, bad)
    else if (¬ r.kd = 1 ∧ ¬ r.kd = 2) ∨ (hdT r).2.bad = true ∨ bad = true then ((hdT r).1, (hdT r).2, true)
    else
      let p := rdT d (hdT r).2 bad
      let q := rdT d p.2.1 p.2.2
      ((hdT r).1.with [p.1, q.1], q.2.1, q.2.2)
theorem rdT_le : ∀ (d : Nat) (r : Rd) (bad : Bool), (rdT d r bad).2.1.b.length ≤ r.b.length
  | 0, r, bad => by
    have := hdT_le r
    unfold rdT
    split <;> exact this
  | d + 1, r, bad => by
    have := hdT_le r
    have h1 := rdT_le d (hdT r).2 bad
    have h2 := rdT_le d (rdT d (hdT r).2 bad).2.1 (rdT d (hdT r).2 bad).2.2
    unfold rdT
    split
    · exact this
    · split
      · exact this
      · simp only; omega
abbrev insR (r : Rd) (bad : Bool) : List Ev.Obj := [.var [.ptr 1 0], rO r, .var [bo bad], .var [.clos n_code_Read_1 [.ptr 0 0, .ptr 2 0, .ptr 3 0]]]
theorem avT_leaf {k : Int} {a b c : List UInt8} : avT (.mk k a b c []) = .agg [i64 k, .sl true (eB a), .sl true (eB b), .sl true (eB c), .sl true []] := rfl
theorem eBn : eB [] = [] := rfl
theorem hdT_3 {r : Rd} (h : r.kd = 3) : hdT r = (.mk 3 [] [] (r.byte.2.bytes 32).1 [], (r.byte.2.bytes 32).2) := by unfold hdT; rw [if_pos h]
theorem hdT_1 {r : Rd} (h : r.kd = 1) : hdT r = (.mk 1 (r.byte.2.bytes 80).1 ((r.byte.2.bytes 80).2.bytes 1024).1 [] [], ((r.byte.2.bytes 80).2.bytes 1024).2) := by unfold hdT; rw [if_neg (by omega), if_pos h]
theorem hdT_2 {r : Rd} (h : r.kd = 2) : hdT r = (.mk 2 (r.byte.2.bytes 80).1 [] ((r.byte.2.bytes 80).2.bytes 32).1 [], ((r.byte.2.bytes 80).2.bytes 32).2) := by unfold hdT; rw [if_neg (by omega), if_neg (by omega), if_pos h]
theorem hdT_x {r : Rd} (h3 : ¬ r.kd = 3) (h1 : ¬ r.kd = 1) (h2 : ¬ r.kd = 2) : hdT r = (.mk r.kd [] [] [] [], r.byte.2) := by unfold hdT; rw [if_neg h3, if_neg h1, if_neg h2]
theorem read1_0 (d : Nat) (hd : d ≤ 64) (r : Rd) (bad : Bool) (h : r.b.length ≤ 1073741824) (hk : r.kd = 0) : Ev tab G0 n_code_Read_1 [i64 d, .ptr 0 0, .ptr 2 0, .ptr 3 0] (insR r bad) = some ([avT (hdT r).1], insR (hdT r).2 bad) := by
  have h1 := coder_Byte_k r h
  rw [hdT_x (by omega) (by omega) (by omega)]
  rw [hk] at *
  simp only [avT_leaf, eBn]
  generalize r.byte.2 = r1 at *
  refine Ev_run t_code_Read_1 rfl rfl ?_
  simp (maxSteps := 1000000) (disch := first | omega | (simp only [lens, List.length_map]; omega)) only [go_sem, ↓reduceIte, Nat.reduceSub, Nat.reduceAdd, Nat.reduceMul, Nat.reduceLeDiff, Nat.reduceLT, Nat.reduceEqDiff, Nat.reduceBEq, Int.reduceLE, Int.reduceLT, Int.reduceEq, Int.reduceNeg, Int.reduceAdd, Int.reduceSub, Int.reduceMul, Int.reduceToNat, i_code_Read_1, h1]
theorem read1_3 (d : Nat) (hd : d ≤ 64) (r : Rd) (bad : Bool) (h : r.b.length ≤ 1073741824) (hk : r.kd = 3) : Ev tab G0 n_code_Read_1 [i64 d, .ptr 0 0, .ptr 2 0, .ptr 3 0] (insR r bad) = some ([avT (hdT r).1], insR (hdT r).2 bad) := by
  have h1 := coder_Byte_k r h
  have hl := r.byte_le
  have h2 := coder_ReaderBytes_ev r.byte.2 32 (by omega) (by omega)
  rw [hdT_3 hk]
  rw [hk] at *
  simp only [avT_leaf, eBn]
  generalize r.byte.2.bytes 32 = r2 at *
  generalize r.byte.2 = r1 at *
  refine Ev_run t_code_Read_1 rfl rfl ?_
  simp (maxSteps := 1000000) (disch := first | omega | (simp only [lens, List.length_map]; omega)) only [go_sem, ↓reduceIte, Nat.reduceSub, Nat.reduceAdd, Nat.reduceMul, Nat.reduceLeDiff, Nat.reduceLT, Nat.reduceEqDiff, Nat.reduceBEq, Int.reduceLE, Int.reduceLT, Int.reduceEq, Int.reduceNeg, Int.reduceAdd, Int.reduceSub, Int.reduceMul, Int.reduceToNat, i_code_Read_1, h1, h2]
theorem read1_x (d : Nat) (hd : d ≤ 64) (r : Rd) (bad : Bool) (h : r.b.length ≤ 1073741824) (hk : 3 < r.kd) : Ev tab G0 n_code_Read_1 [i64 d, .ptr 0 0, .ptr 2 0, .ptr 3 0] (insR r bad) = some ([avT (hdT r).1], insR (hdT r).2 true) := by
  have h1 := coder_Byte_k r h
  have hb := r.kd_le
  rw [hdT_x (by omega) (by omega) (by omega)]
  simp only [avT_leaf, eBn]
  generalize r.kd = k at *
  generalize r.byte.2 = r1 at *
  refine Ev_run t_code_Read_1 rfl rfl ?_
  simp (maxSteps := 1000000) (disch := first | omega | (simp only [lens, List.length_map]; omega)) only [go_sem, ↓reduceIte, Nat.reduceSub, Nat.reduceAdd, Nat.reduceMul, Nat.reduceLeDiff, Nat.reduceLT, Nat.reduceEqDiff, Nat.reduceBEq, Int.reduceLE, Int.reduceLT, Int.reduceEq, Int.reduceNeg, Int.reduceAdd, Int.reduceSub, Int.reduceMul, Int.reduceToNat, i_code_Read_1, h1]
theorem fin_3 (r : Rd) : r.fin = 3 ↔ r.bad = true := by
  unfold Rd.fin
  cases r.bad
  · simp only [Bool.false_eq_true, if_false, iff_false]
    split <;> decide
  · simp
theorem errV_cases (r : Rd) : (r.bad = true → errV r.fin = errA 3) ∧ (r.bad = false → errV r.fin = .s .nilIface ∨ errV r.fin = errA 4) := by
  unfold Rd.fin
  cases r.bad
  · simp only [Bool.false_eq_true, if_false, false_implies, true_and, forall_const]
    split
    · exact .inr (if_neg (by decide))
    · exact .inl (if_pos rfl)
  · simp only [if_true, forall_const, Bool.true_eq_false, false_implies, and_true]
    exact if_neg (by decide)
theorem read1_bad1 (d : Nat) (hd : d ≤ 64) (r : Rd) (bad : Bool) (h : r.b.length ≤ 1073741824) (hk : r.kd = 1) (hb : d = 0 ∨ (hdT r).2.bad = true ∨ bad = true) : Ev tab G0 n_code_Read_1 [i64 d, .ptr 0 0, .ptr 2 0, .ptr 3 0] (insR r bad) = some ([avT (hdT r).1], insR (hdT r).2 true) := by
  have h1 := coder_Byte_k r h
  have hl := r.byte_le
  have hl2 := r.byte.2.bytes_le 80
  have h2 := coder_ReaderBytes_ev r.byte.2 80 (by omega) (by omega)
  have hl3 := (r.byte.2.bytes 80).2.bytes_le 1024
  have h3 := coder_ReaderBytes_ev (r.byte.2.bytes 80).2 1024 (by omega) (by omega)
  have h4 := coder_End_ev ((r.byte.2.bytes 80).2.bytes 1024).2 (by omega)
  have hc := errV_cases ((r.byte.2.bytes 80).2.bytes 1024).2
  rw [hdT_1 hk] at *
  rw [hk] at h1
  simp only [avT_leaf, eBn] at *
  generalize (r.byte.2.bytes 80).2.bytes 1024 = r3 at *
  generalize r.byte.2.bytes 80 = r2 at *
  generalize r.byte.2 = r1 at *
  generalize errV r3.2.fin = e at *
  by_cases hd0 : d = 0
  · subst hd0
    refine Ev_run t_code_Read_1 rfl rfl ?_
    simp (maxSteps := 1000000) (disch := first | omega | (simp only [lens, List.length_map]; omega)) only [go_sem, ↓reduceIte, Nat.reduceSub, Nat.reduceAdd, Nat.reduceMul, Nat.reduceLeDiff, Nat.reduceLT, Nat.reduceEqDiff, Nat.reduceBEq, Int.reduceLE, Int.reduceLT, Int.reduceEq, Int.reduceNeg, Int.reduceAdd, Int.reduceSub, Int.reduceMul, Int.reduceToNat, i_code_Read_1, h1, h2, h3]
  · have hd1 : ¬ ((d : Int) = 0) := by omega
    cases hx : r3.2.bad
    · have hbad : bad = true := by
        rcases hb with hb | hb | hb
        · omega
        · rw [hx] at hb; cases hb
        · exact hb
      subst hbad
      rcases hc.2 hx with rfl | rfl
      · refine Ev_run t_code_Read_1 rfl rfl ?_
        simp (maxSteps := 1000000) (disch := first | omega | (simp only [lens, List.length_map]; omega)) only [go_sem, ↓reduceIte, Nat.reduceSub, Nat.reduceAdd, Nat.reduceMul, Nat.reduceLeDiff, Nat.reduceLT, Nat.reduceEqDiff, Nat.reduceBEq, Int.reduceLE, Int.reduceLT, Int.reduceEq, Int.reduceNeg, Int.reduceAdd, Int.reduceSub, Int.reduceMul, Int.reduceToNat, i_code_Read_1, h1, h2, h3, h4, hd1]
      · refine Ev_run t_code_Read_1 rfl rfl ?_
        simp (maxSteps := 1000000) (disch := first | omega | (simp only [lens, List.length_map]; omega)) only [go_sem, ↓reduceIte, Nat.reduceSub, Nat.reduceAdd, Nat.reduceMul, Nat.reduceLeDiff, Nat.reduceLT, Nat.reduceEqDiff, Nat.reduceBEq, Int.reduceLE, Int.reduceLT, Int.reduceEq, Int.reduceNeg, Int.reduceAdd, Int.reduceSub, Int.reduceMul, Int.reduceToNat, i_code_Read_1, h1, h2, h3, h4, hd1]
    · rw [hc.1 hx] at h4
      refine Ev_run t_code_Read_1 rfl rfl ?_
      simp (maxSteps := 1000000) (disch := first | omega | (simp only [lens, List.length_map]; omega)) only [go_sem, ↓reduceIte, Nat.reduceSub, Nat.reduceAdd, Nat.reduceMul, Nat.reduceLeDiff, Nat.reduceLT, Nat.reduceEqDiff, Nat.reduceBEq, Int.reduceLE, Int.reduceLT, Int.reduceEq, Int.reduceNeg, Int.reduceAdd, Int.reduceSub, Int.reduceMul, Int.reduceToNat, i_code_Read_1, h1, h2, h3, h4, hd1]

end Go.Proofs.Ytkfaahjcncpmhaa
