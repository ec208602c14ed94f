/-
  Trees out of bytes: nodes.
-/
import Derived.Test.YtkfaahjcncpmhaaLCodeR
set_option linter.unusedSimpArgs false
set_option linter.unusedVariables false
set_option maxRecDepth 200000
set_option maxHeartbeats 4000000
namespace Go.Proofs.Ytkfaahjcncpmhaa
open Go.Ev

theorem eT2 {a b : T} : eT [a, b] = [[C.sc (.int .i64 a.kind), .sl (eB a.key), .sl (eB a.value), .sl (eB a.digest), .sl (eT a.kids)], [C.sc (.int .i64 b.kind), .sl (eB b.key), .sl (eB b.value), .sl (eB b.digest), .sl (eT b.kids)]] := by simp only [eT, cells_eq]
theorem avT_two {k : Int} {a b c : List UInt8} {l : List T} : avT (.mk k a b c l) = .agg [i64 k, .sl true (eB a), .sl true (eB b), .sl true (eB c), .sl true (eT l)] := rfl
theorem with_two {k : Int} {a b c : List UInt8} {m l : List T} : (T.mk k a b c m).with l = .mk k a b c l := rfl
theorem read1_good1 (d : Nat) (hd : d + 1 ≤ 64) (ih : ∀ r bad, r.b.length ≤ 1073741824 → Ev tab G0 n_code_Read_1 [i64 d, .ptr 0 0, .ptr 2 0, .ptr 3 0] (insR r bad) = some ([avT (rdT d r bad).1], insR (rdT d r bad).2.1 (rdT d r bad).2.2)) (r : Rd) (h : r.b.length ≤ 1073741824) (hk : r.kd = 1) (hb : (hdT r).2.bad = false) :
    Ev tab G0 n_code_Read_1 [i64 ((d + 1 : Nat) : Int), .ptr 0 0, .ptr 2 0, .ptr 3 0] (insR r false) = some ([avT ((hdT r).1.with [(rdT d (hdT r).2 false).1, (rdT d (rdT d (hdT r).2 false).2.1 (rdT d (hdT r).2 false).2.2).1])], insR (rdT d (rdT d (hdT r).2 false).2.1 (rdT d (hdT r).2 false).2.2).2.1 (rdT d (rdT d (hdT r).2 false).2.1 (rdT d (hdT r).2 false).2.2).2.2) := by
  have h1 := coder_Byte_k r h
  have hl := r.byte_le
  have hl2 := r.byte.2.bytes_le 80
  have h2 := coder_ReaderBytes_ev r.byte.2 80 (by omega) (by omega)
  have hl3 := (r.byte.2.bytes 80).2.bytes_le 1024
  have h3 := coder_ReaderBytes_ev (r.byte.2.bytes 80).2 1024 (by omega) (by omega)
  have h4 := coder_End_ev ((r.byte.2.bytes 80).2.bytes 1024).2 (by omega)
  have hc := errV_cases ((r.byte.2.bytes 80).2.bytes 1024).2
  have hle := rdT_le d (hdT r).2 false
  have hle0 := hdT_le r
  have k1 := ih (hdT r).2 false (by omega)
  have k2 := ih (rdT d (hdT r).2 false).2.1 (rdT d (hdT r).2 false).2.2 (by omega)
  rw [hdT_1 hk] at *
  rw [hk] at h1
  simp only [with_two, avT_two, eBn, eT2] at *
  generalize (r.byte.2.bytes 80).2.bytes 1024 = r3 at *
  generalize r.byte.2.bytes 80 = r2 at *
  generalize r.byte.2 = r1 at *
  generalize errV r3.2.fin = e at *
  generalize rdT d r3.2 false = p at *
  generalize rdT d p.2.1 p.2.2 = q at *
  rw [hb] at *
  have hd1 : ¬ ((d : Int) + 1 = 0) := by omega
  have e1 : (d : Int) + 1 - 1 = d := by omega
  rcases hc.2 rfl with rfl | rfl
  · refine Ev_run t_code_Read_1 rfl rfl ?_
    simp (maxSteps := 1000000) (disch := first | omega | (simp only [lens, List.length_map]; omega)) only [go_sem, ↓reduceIte, Nat.reduceSub, Nat.reduceAdd, Nat.reduceMul, Nat.reduceLeDiff, Nat.reduceLT, Nat.reduceEqDiff, Nat.reduceBEq, Int.reduceLE, Int.reduceLT, Int.reduceEq, Int.reduceNeg, Int.reduceAdd, Int.reduceSub, Int.reduceMul, Int.reduceToNat, i_code_Read_1, h1, h2, h3, h4, hd1, hb, e1, k1, k2, lt_code_Read_1]
  · refine Ev_run t_code_Read_1 rfl rfl ?_
    simp (maxSteps := 1000000) (disch := first | omega | (simp only [lens, List.length_map]; omega)) only [go_sem, ↓reduceIte, Nat.reduceSub, Nat.reduceAdd, Nat.reduceMul, Nat.reduceLeDiff, Nat.reduceLT, Nat.reduceEqDiff, Nat.reduceBEq, Int.reduceLE, Int.reduceLT, Int.reduceEq, Int.reduceNeg, Int.reduceAdd, Int.reduceSub, Int.reduceMul, Int.reduceToNat, i_code_Read_1, h1, h2, h3, h4, hd1, hb, e1, k1, k2, lt_code_Read_1]
theorem read1_good2 (d : Nat) (hd : d + 1 ≤ 64) (ih : ∀ r bad, r.b.length ≤ 1073741824 → Ev tab G0 n_code_Read_1 [i64 d, .ptr 0 0, .ptr 2 0, .ptr 3 0] (insR r bad) = some ([avT (rdT d r bad).1], insR (rdT d r bad).2.1 (rdT d r bad).2.2)) (r : Rd) (h : r.b.length ≤ 1073741824) (hk : r.kd = 2) (hb : (hdT r).2.bad = false) :
    Ev tab G0 n_code_Read_1 [i64 ((d + 1 : Nat) : Int), .ptr 0 0, .ptr 2 0, .ptr 3 0] (insR r false) = some ([avT ((hdT r).1.with [(rdT d (hdT r).2 false).1, (rdT d (rdT d (hdT r).2 false).2.1 (rdT d (hdT r).2 false).2.2).1])], insR (rdT d (rdT d (hdT r).2 false).2.1 (rdT d (hdT r).2 false).2.2).2.1 (rdT d (rdT d (hdT r).2 false).2.1 (rdT d (hdT r).2 false).2.2).2.2) := by
  have h1 := coder_Byte_k r h
  have hl := r.byte_le
  have hl2 := r.byte.2.bytes_le 80
  have h2 := coder_ReaderBytes_ev r.byte.2 80 (by omega) (by omega)
  have hl3 := (r.byte.2.bytes 80).2.bytes_le 32
  have h3 := coder_ReaderBytes_ev (r.byte.2.bytes 80).2 32 (by omega) (by omega)
  have h4 := coder_End_ev ((r.byte.2.bytes 80).2.bytes 32).2 (by omega)
  have hc := errV_cases ((r.byte.2.bytes 80).2.bytes 32).2
  have hle := rdT_le d (hdT r).2 false
  have hle0 := hdT_le r
  have k1 := ih (hdT r).2 false (by omega)
  have k2 := ih (rdT d (hdT r).2 false).2.1 (rdT d (hdT r).2 false).2.2 (by omega)
  rw [hdT_2 hk] at *
  rw [hk] at h1
  simp only [with_two, avT_two, eBn, eT2] at *
  generalize (r.byte.2.bytes 80).2.bytes 32 = r3 at *
  generalize r.byte.2.bytes 80 = r2 at *
  generalize r.byte.2 = r1 at *
  generalize errV r3.2.fin = e at *
  generalize rdT d r3.2 false = p at *
  generalize rdT d p.2.1 p.2.2 = q at *
  rw [hb] at *
  have hd1 : ¬ ((d : Int) + 1 = 0) := by omega
  have e1 : (d : Int) + 1 - 1 = d := by omega
  rcases hc.2 rfl with rfl | rfl
  · refine Ev_run t_code_Read_1 rfl rfl ?_
    simp (maxSteps := 1000000) (disch := first | omega | (simp only [lens, List.length_map]; omega)) only [go_sem, ↓reduceIte, Nat.reduceSub, Nat.reduceAdd, Nat.reduceMul, Nat.reduceLeDiff, Nat.reduceLT, Nat.reduceEqDiff, Nat.reduceBEq, Int.reduceLE, Int.reduceLT, Int.reduceEq, Int.reduceNeg, Int.reduceAdd, Int.reduceSub, Int.reduceMul, Int.reduceToNat, i_code_Read_1, h1, h2, h3, h4, hd1, hb, e1, k1, k2, lt_code_Read_1]
  · refine Ev_run t_code_Read_1 rfl rfl ?_
    simp (maxSteps := 1000000) (disch := first | omega | (simp only [lens, List.length_map]; omega)) only [go_sem, ↓reduceIte, Nat.reduceSub, Nat.reduceAdd, Nat.reduceMul, Nat.reduceLeDiff, Nat.reduceLT, Nat.reduceEqDiff, Nat.reduceBEq, Int.reduceLE, Int.reduceLT, Int.reduceEq, Int.reduceNeg, Int.reduceAdd, Int.reduceSub, Int.reduceMul, Int.reduceToNat, i_code_Read_1, h1, h2, h3, h4, hd1, hb, e1, k1, k2, lt_code_Read_1]
theorem rdT_z {r : Rd} (d : Nat) (bad : Bool) (h : r.kd = 0 ∨ r.kd = 3) : rdT d r bad = ((hdT r).1, (hdT r).2, bad) := by cases d <;> (unfold rdT; rw [if_pos h])
theorem rdT_x {r : Rd} (d : Nat) (bad : Bool) (h : ¬ (r.kd = 0 ∨ r.kd = 3)) (h2 : d = 0 ∨ (¬ r.kd = 1 ∧ ¬ r.kd = 2) ∨ (hdT r).2.bad = true ∨ bad = true) : rdT d r bad = ((hdT r).1, (hdT r).2, true) := by
  cases d with
  | zero => unfold rdT; rw [if_neg h]
  | succ d => unfold rdT; rw [if_neg h, if_pos (h2.resolve_left (Nat.succ_ne_zero d))]
theorem rdT_d {r : Rd} (d : Nat) (bad : Bool) (h : ¬ (r.kd = 0 ∨ r.kd = 3)) (h2 : ¬ ((¬ r.kd = 1 ∧ ¬ r.kd = 2) ∨ (hdT r).2.bad = true ∨ bad = true)) : rdT (d + 1) r bad = ((hdT r).1.with [(rdT d (hdT r).2 bad).1, (rdT d (rdT d (hdT r).2 bad).2.1 (rdT d (hdT r).2 bad).2.2).1], (rdT d (rdT d (hdT r).2 bad).2.1 (rdT d (hdT r).2 bad).2.2).2.1, (rdT d (rdT d (hdT r).2 bad).2.1 (rdT d (hdT r).2 bad).2.2).2.2) := by
  rw [rdT, if_neg h, if_neg h2]

end Go.Proofs.Ytkfaahjcncpmhaa
