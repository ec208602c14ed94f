/-
  Trees out of bytes: the document's.
-/
import Derived.Test.YtkfaahjcncpmhaaLTree5
import Derived.Test.YtkfaahjcncpmhaaLSim
import Derived.Test.YtkfaahjcncpmhaaLCodeR3
set_option linter.unusedSimpArgs false
set_option linter.unusedVariables false
set_option maxRecDepth 200000
set_option maxHeartbeats 4000000
namespace Go.Proofs.Ytkfaahjcncpmhaa
open Go.Ev

def Rf.kd (r : Rf) : Int := r.byte.1.toNat
theorem Rf.kd_le (r : Rf) : 0 ≤ r.kd ∧ r.kd < 256 := by
  have := r.byte.1.toNat_lt
  unfold Rf.kd
  omega
theorem ref02_Byte_k (r : Rf) (h : r.ok) : Ev tab G0 n_ref02_Reader_Byte [.ptr 0 0] [fO r] = some ([u8 r.kd], [fO r.byte.2]) := ref02_Byte_ev r h
def hdF (r : Rf) : T × Rf :=
  if r.kd = 3 then (.mk 3 [] [] (r.byte.2.bytes 32).1 [], (r.byte.2.bytes 32).2)
  else if r.kd = 1 then (.mk 1 (r.byte.2.bytes 80).1 ((r.byte.2.bytes 80).2.bytes 1024).1 [] [], ((r.byte.2.bytes 80).2.bytes 1024).2)
  else if r.kd = 2 then (.mk 2 (r.byte.2.bytes 80).1 [] ((r.byte.2.bytes 80).2.bytes 32).1 [], ((r.byte.2.bytes 80).2.bytes 32).2)
  else (.mk r.kd [] [] [] [], r.byte.2)
theorem hdF_3 {r : Rf} (h : r.kd = 3) : hdF r = (.mk 3 [] [] (r.byte.2.bytes 32).1 [], (r.byte.2.bytes 32).2) := by unfold hdF; rw [if_pos h]
theorem hdF_1 {r : Rf} (h : r.kd = 1) : hdF r = (.mk 1 (r.byte.2.bytes 80).1 ((r.byte.2.bytes 80).2.bytes 1024).1 [] [], ((r.byte.2.bytes 80).2.bytes 1024).2) := by unfold hdF; rw [if_neg (by omega), if_pos h]
theorem hdF_2 {r : Rf} (h : r.kd = 2) : hdF r = (.mk 2 (r.byte.2.bytes 80).1 [] ((r.byte.2.bytes 80).2.bytes 32).1 [], ((r.byte.2.bytes 80).2.bytes 32).2) := by unfold hdF; rw [if_neg (by omega), if_neg (by omega), if_pos h]
theorem hdF_x {r : Rf} (h3 : ¬ r.kd = 3) (h1 : ¬ r.kd = 1) (h2 : ¬ r.kd = 2) : hdF r = (.mk r.kd [] [] [] [], r.byte.2) := by unfold hdF; rw [if_neg h3, if_neg h1, if_neg h2]
theorem hdF_ok (r : Rf) (h : r.ok) : (hdF r).2.ok := by
  have h1 := r.byte_ok h
  have h2 := (r.byte.2.bytes_ok 80 h1).1
  by_cases k3 : r.kd = 3
  · rw [hdF_3 k3]; exact (r.byte.2.bytes_ok 32 h1).1
  · by_cases k1 : r.kd = 1
    · rw [hdF_1 k1]; exact ((r.byte.2.bytes 80).2.bytes_ok 1024 h2).1
    · by_cases k2 : r.kd = 2
      · rw [hdF_2 k2]; exact ((r.byte.2.bytes 80).2.bytes_ok 32 h2).1
      · rw [hdF_x k3 k1 k2]; exact h1
abbrev Rf.spoil (r : Rf) : Rf := ⟨r.B, r.p, true⟩
def rfT : Nat → Rf → T × Rf
  | 0, r =>
    if 0 < r.kd ∧ ¬ r.kd = 3 then (.mk r.kd [] [] [] [], r.byte.2.spoil) else if r.byte.2.bad = true ∨ r.kd = 0 then (.mk r.kd [] [] [] [], r.byte.2) else hdF r
  | d + 1, r =>
    if 3 < r.kd then (.mk r.kd [] [] [] [], r.byte.2.spoil)
    else if r.byte.2.bad = true ∨ r.kd = 0 then (.mk r.kd [] [] [] [], r.byte.2)
    else if r.kd = 3 ∨ (hdF r).2.bad = true then hdF r
    else ((hdF r).1.with [(rfT d (hdF r).2).1, (rfT d (rfT d (hdF r).2).2).1], (rfT d (rfT d (hdF r).2).2).2)
theorem fread_x (d : Nat) (hd : d ≤ 64) (r : Rf) (h : r.ok) (hk : 3 < r.kd ∨ (d = 0 ∧ (r.kd = 1 ∨ r.kd = 2))) : Ev tab G0 n_ref10_read [.ptr 0 0, i64 d] [fO r] = some ([avT (.mk r.kd [] [] [] [])], [fO r.byte.2.spoil]) := by
  have h1 := ref02_Byte_k r h
  have hb := r.kd_le
  simp only [avT_leaf, eBn]
  generalize r.kd = k at *
  generalize r.byte.2 = r1 at *
  rcases hk with hk | ⟨rfl, rfl | rfl⟩
  · refine Ev_run t_ref10_read rfl rfl ?_
    simp (maxSteps := 1000000) (disch := first | omega | (simp only [lens, List.length_map]; omega)) only [go_sem, ↓reduceIte, Nat.reduceSub, Nat.reduceAdd, Nat.reduceMul, Nat.reduceLeDiff, Nat.reduceLT, Nat.reduceEqDiff, Nat.reduceBEq, Int.reduceLE, Int.reduceLT, Int.reduceEq, Int.reduceNeg, Int.reduceAdd, Int.reduceSub, Int.reduceMul, Int.reduceToNat, i_ref10_read, fO, h1]
  · refine Ev_run t_ref10_read rfl rfl ?_
    simp (maxSteps := 1000000) (disch := first | omega | (simp only [lens, List.length_map]; omega)) only [go_sem, ↓reduceIte, Nat.reduceSub, Nat.reduceAdd, Nat.reduceMul, Nat.reduceLeDiff, Nat.reduceLT, Nat.reduceEqDiff, Nat.reduceBEq, Int.reduceLE, Int.reduceLT, Int.reduceEq, Int.reduceNeg, Int.reduceAdd, Int.reduceSub, Int.reduceMul, Int.reduceToNat, i_ref10_read, fO, h1]
  · refine Ev_run t_ref10_read rfl rfl ?_
    simp (maxSteps := 1000000) (disch := first | omega | (simp only [lens, List.length_map]; omega)) only [go_sem, ↓reduceIte, Nat.reduceSub, Nat.reduceAdd, Nat.reduceMul, Nat.reduceLeDiff, Nat.reduceLT, Nat.reduceEqDiff, Nat.reduceBEq, Int.reduceLE, Int.reduceLT, Int.reduceEq, Int.reduceNeg, Int.reduceAdd, Int.reduceSub, Int.reduceMul, Int.reduceToNat, i_ref10_read, fO, h1]
theorem fread_0 (d : Nat) (hd : d ≤ 64) (r : Rf) (h : r.ok) (hk : r.kd = 0) : Ev tab G0 n_ref10_read [.ptr 0 0, i64 d] [fO r] = some ([avT (.mk r.kd [] [] [] [])], [fO r.byte.2]) := by
  have h1 := ref02_Byte_k r h
  simp only [avT_leaf, eBn]
  rw [hk] at *
  generalize r.byte.2 = r1 at *
  refine Ev_run t_ref10_read rfl rfl ?_
  by_cases hd0 : (d : Int) = 0
  · cases hx : r1.bad <;> simp (maxSteps := 1000000) (disch := first | omega | (simp only [lens, List.length_map]; omega)) only [go_sem, ↓reduceIte, Nat.reduceSub, Nat.reduceAdd, Nat.reduceMul, Nat.reduceLeDiff, Nat.reduceLT, Nat.reduceEqDiff, Nat.reduceBEq, Int.reduceLE, Int.reduceLT, Int.reduceEq, Int.reduceNeg, Int.reduceAdd, Int.reduceSub, Int.reduceMul, Int.reduceToNat, i_ref10_read, fO, h1, hx, hd0]
  · cases hx : r1.bad <;> simp (maxSteps := 1000000) (disch := first | omega | (simp only [lens, List.length_map]; omega)) only [go_sem, ↓reduceIte, Nat.reduceSub, Nat.reduceAdd, Nat.reduceMul, Nat.reduceLeDiff, Nat.reduceLT, Nat.reduceEqDiff, Nat.reduceBEq, Int.reduceLE, Int.reduceLT, Int.reduceEq, Int.reduceNeg, Int.reduceAdd, Int.reduceSub, Int.reduceMul, Int.reduceToNat, i_ref10_read, fO, h1, hx, hd0]
theorem fread_3 (d : Nat) (hd : d ≤ 64) (r : Rf) (h : r.ok) (hk : r.kd = 3) (hx : r.byte.2.bad = false) : Ev tab G0 n_ref10_read [.ptr 0 0, i64 d] [fO r] = some ([avT (hdF r).1], [fO (hdF r).2]) := by
  have h1 := ref02_Byte_k r h
  have h2 := ref02_Bytes_r_ev r.byte.2 32 (by omega) (r.byte_ok h)
  rw [hdF_3 hk]
  simp only [avT_leaf, eBn]
  rw [hk] at *
  generalize r.byte.2.bytes 32 = r2 at *
  generalize r.byte.2 = r1 at *
  obtain ⟨B1, p1, x1⟩ := r1
  simp only at hx
  subst hx
  refine Ev_run t_ref10_read rfl rfl ?_
  by_cases hd0 : (d : Int) = 0
  · simp (maxSteps := 1000000) (disch := first | omega | (simp only [lens, List.length_map]; omega)) only [go_sem, ↓reduceIte, Nat.reduceSub, Nat.reduceAdd, Nat.reduceMul, Nat.reduceLeDiff, Nat.reduceLT, Nat.reduceEqDiff, Nat.reduceBEq, Int.reduceLE, Int.reduceLT, Int.reduceEq, Int.reduceNeg, Int.reduceAdd, Int.reduceSub, Int.reduceMul, Int.reduceToNat, i_ref10_read, fO, h1, h2, hd0]
  · simp (maxSteps := 1000000) (disch := first | omega | (simp only [lens, List.length_map]; omega)) only [go_sem, ↓reduceIte, Nat.reduceSub, Nat.reduceAdd, Nat.reduceMul, Nat.reduceLeDiff, Nat.reduceLT, Nat.reduceEqDiff, Nat.reduceBEq, Int.reduceLE, Int.reduceLT, Int.reduceEq, Int.reduceNeg, Int.reduceAdd, Int.reduceSub, Int.reduceMul, Int.reduceToNat, i_ref10_read, fO, h1, h2, hd0]
theorem fread_b1 (d : Nat) (hd : d + 1 ≤ 64) (r : Rf) (h : r.ok) (hk : r.kd = 1) (hx : r.byte.2.bad = false) (hb : (hdF r).2.bad = true) : Ev tab G0 n_ref10_read [.ptr 0 0, i64 ((d + 1 : Nat) : Int)] [fO r] = some ([avT (hdF r).1], [fO (hdF r).2]) := by
  have h1 := ref02_Byte_k r h
  have h2 := ref02_Bytes_r_ev r.byte.2 80 (by omega) (r.byte_ok h)
  have h3 := ref02_Bytes_r_ev (r.byte.2.bytes 80).2 1024 (by omega) (r.byte.2.bytes_ok 80 (r.byte_ok h)).1
  rw [hdF_1 hk] at *
  simp only [avT_leaf, eBn] at *
  rw [hk] at h1
  generalize (r.byte.2.bytes 80).2.bytes 1024 = r3 at *
  generalize r.byte.2.bytes 80 = r2 at *
  generalize r.byte.2 = r1 at *
  have hd1 : ¬ ((d : Int) + 1 = 0) := by omega
  obtain ⟨B1, p1, x1⟩ := r1
  simp only at hx
  subst hx
  obtain ⟨v3, B3, p3, x3⟩ := r3
  simp only at hb
  subst hb
  refine Ev_run t_ref10_read rfl rfl ?_
  simp (maxSteps := 1000000) (disch := first | omega | (simp only [lens, List.length_map]; omega)) only [go_sem, ↓reduceIte, Nat.reduceSub, Nat.reduceAdd, Nat.reduceMul, Nat.reduceLeDiff, Nat.reduceLT, Nat.reduceEqDiff, Nat.reduceBEq, Int.reduceLE, Int.reduceLT, Int.reduceEq, Int.reduceNeg, Int.reduceAdd, Int.reduceSub, Int.reduceMul, Int.reduceToNat, i_ref10_read, fO, h1, h2, h3, hd1]
theorem fread_b2 (d : Nat) (hd : d + 1 ≤ 64) (r : Rf) (h : r.ok) (hk : r.kd = 2) (hx : r.byte.2.bad = false) (hb : (hdF r).2.bad = true) : Ev tab G0 n_ref10_read [.ptr 0 0, i64 ((d + 1 : Nat) : Int)] [fO r] = some ([avT (hdF r).1], [fO (hdF r).2]) := by
  have h1 := ref02_Byte_k r h
  have h2 := ref02_Bytes_r_ev r.byte.2 80 (by omega) (r.byte_ok h)
  have h3 := ref02_Bytes_r_ev (r.byte.2.bytes 80).2 32 (by omega) (r.byte.2.bytes_ok 80 (r.byte_ok h)).1
  rw [hdF_2 hk] at *
  simp only [avT_leaf, eBn] at *
  rw [hk] at h1
  generalize (r.byte.2.bytes 80).2.bytes 32 = r3 at *
  generalize r.byte.2.bytes 80 = r2 at *
  generalize r.byte.2 = r1 at *
  have hd1 : ¬ ((d : Int) + 1 = 0) := by omega
  obtain ⟨B1, p1, x1⟩ := r1
  simp only at hx
  subst hx
  obtain ⟨v3, B3, p3, x3⟩ := r3
  simp only at hb
  subst hb
  refine Ev_run t_ref10_read rfl rfl ?_
  simp (maxSteps := 1000000) (disch := first | omega | (simp only [lens, List.length_map]; omega)) only [go_sem, ↓reduceIte, Nat.reduceSub, Nat.reduceAdd, Nat.reduceMul, Nat.reduceLeDiff, Nat.reduceLT, Nat.reduceEqDiff, Nat.reduceBEq, Int.reduceLE, Int.reduceLT, Int.reduceEq, Int.reduceNeg, Int.reduceAdd, Int.reduceSub, Int.reduceMul, Int.reduceToNat, i_ref10_read, fO, h1, h2, h3, hd1]
theorem fread_d1 (d : Nat) (hd : d + 1 ≤ 64) (ih : ∀ r : Rf, r.ok → Ev tab G0 n_ref10_read [.ptr 0 0, i64 d] [fO r] = some ([avT (rfT d r).1], [fO (rfT d r).2]) ∧ (rfT d r).2.ok) (r : Rf) (h : r.ok) (hk : r.kd = 1) (hx : r.byte.2.bad = false) (hb : (hdF r).2.bad = false) : Ev tab G0 n_ref10_read [.ptr 0 0, i64 ((d + 1 : Nat) : Int)] [fO r] = some ([avT ((hdF r).1.with [(rfT d (hdF r).2).1, (rfT d (rfT d (hdF r).2).2).1])], [fO (rfT d (rfT d (hdF r).2).2).2]) := by
  have h1 := ref02_Byte_k r h
  have h2 := ref02_Bytes_r_ev r.byte.2 80 (by omega) (r.byte_ok h)
  have h3 := ref02_Bytes_r_ev (r.byte.2.bytes 80).2 1024 (by omega) (r.byte.2.bytes_ok 80 (r.byte_ok h)).1
  have k1 := ih _ (hdF_ok r h)
  have k2 := (ih _ k1.2).1
  have k1 := k1.1
  rw [hdF_1 hk] at *
  simp only [with_two, avT_two, eBn, eT2] at *
  rw [hk] at h1
  generalize (r.byte.2.bytes 80).2.bytes 1024 = r3 at *
  generalize r.byte.2.bytes 80 = r2 at *
  generalize r.byte.2 = r1 at *
  generalize rfT d r3.2 = p at *
  generalize rfT d p.2 = q at *
  have hd1 : ¬ ((d : Int) + 1 = 0) := by omega
  have e1 : (d : Int) + 1 - 1 = d := by omega
  obtain ⟨B1, p1, x1⟩ := r1
  simp only at hx
  subst hx
  obtain ⟨v3, B3, p3, x3⟩ := r3
  simp only at hb
  subst hb
  refine Ev_run t_ref10_read rfl rfl ?_
  simp (maxSteps := 1000000) (disch := first | omega | (simp only [lens, List.length_map]; omega)) only [go_sem, ↓reduceIte, Nat.reduceSub, Nat.reduceAdd, Nat.reduceMul, Nat.reduceLeDiff, Nat.reduceLT, Nat.reduceEqDiff, Nat.reduceBEq, Int.reduceLE, Int.reduceLT, Int.reduceEq, Int.reduceNeg, Int.reduceAdd, Int.reduceSub, Int.reduceMul, Int.reduceToNat, i_ref10_read, fO, h1, h2, h3, hd1, e1, k1, k2]
theorem fread_d2 (d : Nat) (hd : d + 1 ≤ 64) (ih : ∀ r : Rf, r.ok → Ev tab G0 n_ref10_read [.ptr 0 0, i64 d] [fO r] = some ([avT (rfT d r).1], [fO (rfT d r).2]) ∧ (rfT d r).2.ok) (r : Rf) (h : r.ok) (hk : r.kd = 2) (hx : r.byte.2.bad = false) (hb : (hdF r).2.bad = false) : Ev tab G0 n_ref10_read [.ptr 0 0, i64 ((d + 1 : Nat) : Int)] [fO r] = some ([avT ((hdF r).1.with [(rfT d (hdF r).2).1, (rfT d (rfT d (hdF r).2).2).1])], [fO (rfT d (rfT d (hdF r).2).2).2]) := by
  have h1 := ref02_Byte_k r h
  have h2 := ref02_Bytes_r_ev r.byte.2 80 (by omega) (r.byte_ok h)
  have h3 := ref02_Bytes_r_ev (r.byte.2.bytes 80).2 32 (by omega) (r.byte.2.bytes_ok 80 (r.byte_ok h)).1
  have k1 := ih _ (hdF_ok r h)
  have k2 := (ih _ k1.2).1
  have k1 := k1.1
  rw [hdF_2 hk] at *
  simp only [with_two, avT_two, eBn, eT2] at *
  rw [hk] at h1
  generalize (r.byte.2.bytes 80).2.bytes 32 = r3 at *
  generalize r.byte.2.bytes 80 = r2 at *
  generalize r.byte.2 = r1 at *
  generalize rfT d r3.2 = p at *
  generalize rfT d p.2 = q at *
  have hd1 : ¬ ((d : Int) + 1 = 0) := by omega
  have e1 : (d : Int) + 1 - 1 = d := by omega
  obtain ⟨B1, p1, x1⟩ := r1
  simp only at hx
  subst hx
  obtain ⟨v3, B3, p3, x3⟩ := r3
  simp only at hb
  subst hb
  refine Ev_run t_ref10_read rfl rfl ?_
  simp (maxSteps := 1000000) (disch := first | omega | (simp only [lens, List.length_map]; omega)) only [go_sem, ↓reduceIte, Nat.reduceSub, Nat.reduceAdd, Nat.reduceMul, Nat.reduceLeDiff, Nat.reduceLT, Nat.reduceEqDiff, Nat.reduceBEq, Int.reduceLE, Int.reduceLT, Int.reduceEq, Int.reduceNeg, Int.reduceAdd, Int.reduceSub, Int.reduceMul, Int.reduceToNat, i_ref10_read, fO, h1, h2, h3, hd1, e1, k1, k2]

end Go.Proofs.Ytkfaahjcncpmhaa
