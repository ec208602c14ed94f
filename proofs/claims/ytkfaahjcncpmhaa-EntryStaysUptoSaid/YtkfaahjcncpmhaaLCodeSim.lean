/-
  Trees out of bytes: the document's.
-/
import Derived.Test.YtkfaahjcncpmhaaLTree5
import Derived.Test.YtkfaahjcncpmhaaLSim
import Derived.Test.YtkfaahjcncpmhaaLCodeR3
import Derived.Test.YtkfaahjcncpmhaaLCodeR
set_option linter.unusedSimpArgs false
set_option linter.unusedVariables false
set_option maxRecDepth 200000
set_option maxHeartbeats 4000000
namespace Go.Proofs.Ytkfaahjcncpmhaa
open Go.Ev

def Rf.kd (r : Rf) : Int := r.byte.1.toNat
theorem Rf.kd_le (r : Rf) : 0 ≤ r.kd ∧ r.kd < 256 := by
  have := r.byte.1.toNat_lt
  unfold Rf.kd
  omega
def hdF (r : Rf) : T × Rf :=
  if r.kd = 3 then (.mk 3 [] [] (r.byte.2.bytes 32).1 [], (r.byte.2.bytes 32).2)
  else if r.kd = 1 then (.mk 1 (r.byte.2.bytes 80).1 ((r.byte.2.bytes 80).2.bytes 1024).1 [] [], ((r.byte.2.bytes 80).2.bytes 1024).2)
  else if r.kd = 2 then (.mk 2 (r.byte.2.bytes 80).1 [] ((r.byte.2.bytes 80).2.bytes 32).1 [], ((r.byte.2.bytes 80).2.bytes 32).2)
  else (.mk r.kd [] [] [] [], r.byte.2)
theorem hdF_3 {r : Rf} (h : r.kd = 3) : hdF r = (.mk 3 [] [] (r.byte.2.bytes 32).1 [], (r.byte.2.bytes 32).2) := by unfold hdF; rw [if_pos h]
theorem hdF_1 {r : Rf} (h : r.kd = 1) : hdF r = (.mk 1 (r.byte.2.bytes 80).1 ((r.byte.2.bytes 80).2.bytes 1024).1 [] [], ((r.byte.2.bytes 80).2.bytes 1024).2) := by unfold hdF; rw [if_neg (by omega), if_pos h]
theorem hdF_2 {r : Rf} (h : r.kd = 2) : hdF r = (.mk 2 (r.byte.2.bytes 80).1 [] ((r.byte.2.bytes 80).2.bytes 32).1 [], ((r.byte.2.bytes 80).2.bytes 32).2) := by unfold hdF; rw [if_neg (by omega), if_neg (by omega), if_pos h]
theorem hdF_x {r : Rf} (h3 : ¬ r.kd = 3) (h1 : ¬ r.kd = 1) (h2 : ¬ r.kd = 2) : hdF r = (.mk r.kd [] [] [] [], r.byte.2) := by unfold hdF; rw [if_neg h3, if_neg h1, if_neg h2]
theorem hdF_ok (r : Rf) (h : r.ok) : (hdF r).2.ok := by
  have h1 := r.byte_ok h
  have h2 := (r.byte.2.bytes_ok 80 h1).1
  by_cases k3 : r.kd = 3
  · rw [hdF_3 k3]; exact (r.byte.2.bytes_ok 32 h1).1
  · by_cases k1 : r.kd = 1
    · rw [hdF_1 k1]; exact ((r.byte.2.bytes 80).2.bytes_ok 1024 h2).1
    · by_cases k2 : r.kd = 2
      · rw [hdF_2 k2]; exact ((r.byte.2.bytes 80).2.bytes_ok 32 h2).1
      · rw [hdF_x k3 k1 k2]; exact h1
abbrev Rf.spoil (r : Rf) : Rf := ⟨r.B, r.p, true⟩
def rfT : Nat → Rf → T × Rf
  | 0, r =>
    if 0 < r.kd ∧ ¬ r.kd = 3 then (.mk r.kd [] [] [] [], r.byte.2.spoil) else if r.byte.2.bad = true ∨ r.kd = 0 then (.mk r.kd [] [] [] [], r.byte.2) else hdF r
  | d + 1, r =>
    if 3 < r.kd then (.mk r.kd [] [] [] [], r.byte.2.spoil)
    else if r.byte.2.bad = true ∨ r.kd = 0 then (.mk r.kd [] [] [] [], r.byte.2)
    else if r.kd = 3 ∨ (hdF r).2.bad = true then hdF r
    else ((hdF r).1.with [(rfT d (hdF r).2).1, (rfT d (rfT d (hdF r).2).2).1], (rfT d (rfT d (hdF r).2).2).2)
end Go.Proofs.Ytkfaahjcncpmhaa
namespace Go.Proofs.Ytkfaahjcncpmhaa
open Go.Ev

theorem spoil_ok {r : Rf} (h : r.ok) : r.spoil.ok := h
theorem rfT_x0 {r : Rf} (h : 0 < r.kd ∧ ¬ r.kd = 3) : rfT 0 r = (.mk r.kd [] [] [] [], r.byte.2.spoil) := by unfold rfT; rw [if_pos h]
theorem rfT_x {r : Rf} {d : Nat} (h : 3 < r.kd) : rfT d r = (.mk r.kd [] [] [] [], r.byte.2.spoil) := by
  cases d with
  | zero => unfold rfT; rw [if_pos (by omega)]
  | succ d => unfold rfT; rw [if_pos h]
theorem rfT_0 {r : Rf} {d : Nat} (h : r.kd = 0) : rfT d r = (.mk r.kd [] [] [] [], r.byte.2) := by
  cases d with
  | zero => unfold rfT; rw [if_neg (by omega), if_pos (.inr h)]
  | succ d => unfold rfT; rw [if_neg (by omega), if_pos (.inr h)]
theorem rfT_3 {r : Rf} {d : Nat} (h : r.kd = 3) (hx : r.byte.2.bad = false) : rfT d r = hdF r := by
  have hn : ¬ (r.byte.2.bad = true ∨ r.kd = 0) := by rw [hx, h]; simp
  cases d with
  | zero => unfold rfT; rw [if_neg (by omega), if_neg hn]
  | succ d => unfold rfT; rw [if_neg (by omega), if_neg hn, if_pos (.inl h)]
theorem rfT_b {r : Rf} {d : Nat} (h : r.kd = 1 ∨ r.kd = 2) (hx : r.byte.2.bad = false) (hb : (hdF r).2.bad = true) : rfT (d + 1) r = hdF r := by
  have hn : ¬ (r.byte.2.bad = true ∨ r.kd = 0) := by rw [hx]; simp; omega
  rw [rfT, if_neg (by omega), if_neg hn, if_pos (.inr hb)]
theorem rfT_d {r : Rf} {d : Nat} (h : r.kd = 1 ∨ r.kd = 2) (hx : r.byte.2.bad = false) (hb : (hdF r).2.bad = false) : rfT (d + 1) r = ((hdF r).1.with [(rfT d (hdF r).2).1, (rfT d (rfT d (hdF r).2).2).1], (rfT d (rfT d (hdF r).2).2).2) := by
  have hn : ¬ (r.byte.2.bad = true ∨ r.kd = 0) := by rw [hx]; simp; omega
  rw [rfT, if_neg (by omega), if_neg hn, if_neg (by rw [hb]; simp; omega)]
theorem fbyte_bad {r : Rf} (h : r.byte.2.bad = true) : r.kd = 0 := by
  revert h
  unfold Rf.kd Rf.byte
  split
  · exact fun _ => rfl
  · split
    · exact fun _ => rfl
    · intro h; cases h
/-- What is amiss with bytes, and their tree. -/
def rfR (b : List UInt8) : T × Rf := rfT 64 ⟨b, 0, false⟩
def rfC (b : List UInt8) : Int := (rfR b).2.fin
def rfV (b : List UInt8) : T := if rfC b = 0 then (rfR b).1 else .no
end Go.Proofs.Ytkfaahjcncpmhaa
namespace Go.Proofs.Ytkfaahjcncpmhaa
open Go.Ev

theorem read1_bad2 (d : Nat) (hd : d ≤ 64) (r : Rd) (bad : Bool) (h : r.b.length ≤ 1073741824) (hk : r.kd = 2) (hb : d = 0 ∨ (hdT r).2.bad = true ∨ bad = true) : Ev tab G0 n_code_Read_1 [i64 d, .ptr 0 0, .ptr 2 0, .ptr 3 0] (insR r bad) = some ([avT (hdT r).1], insR (hdT r).2 true) := by
  have h1 := coder_Byte_k r h
  have hl := r.byte_le
  have hl2 := r.byte.2.bytes_le 80
  have h2 := coder_ReaderBytes_ev r.byte.2 80 (by omega) (by omega)
  have hl3 := (r.byte.2.bytes 80).2.bytes_le 32
  have h3 := coder_ReaderBytes_ev (r.byte.2.bytes 80).2 32 (by omega) (by omega)
  have h4 := coder_End_ev ((r.byte.2.bytes 80).2.bytes 32).2 (by omega)
  have hc := errV_cases ((r.byte.2.bytes 80).2.bytes 32).2
  rw [hdT_2 hk] at *
  rw [hk] at h1
  simp only [avT_leaf, eBn] at *
  generalize (r.byte.2.bytes 80).2.bytes 32 = r3 at *
  generalize r.byte.2.bytes 80 = r2 at *
  generalize r.byte.2 = r1 at *
  generalize errV r3.2.fin = e at *
  by_cases hd0 : d = 0
  · subst hd0
    refine Ev_run t_code_Read_1 rfl rfl ?_
    simp (maxSteps := 1000000) (disch := first | omega | (simp only [lens, List.length_map]; omega)) only [go_sem, ↓reduceIte, Nat.reduceSub, Nat.reduceAdd, Nat.reduceMul, Nat.reduceLeDiff, Nat.reduceLT, Nat.reduceEqDiff, Nat.reduceBEq, Int.reduceLE, Int.reduceLT, Int.reduceEq, Int.reduceNeg, Int.reduceAdd, Int.reduceSub, Int.reduceMul, Int.reduceToNat, i_code_Read_1, h1, h2, h3]
  · have hd1 : ¬ ((d : Int) = 0) := by omega
    cases hx : r3.2.bad
    · have hbad : bad = true := by
        rcases hb with hb | hb | hb
        · omega
        · rw [hx] at hb; cases hb
        · exact hb
      subst hbad
      rcases hc.2 hx with rfl | rfl
      · refine Ev_run t_code_Read_1 rfl rfl ?_
        simp (maxSteps := 1000000) (disch := first | omega | (simp only [lens, List.length_map]; omega)) only [go_sem, ↓reduceIte, Nat.reduceSub, Nat.reduceAdd, Nat.reduceMul, Nat.reduceLeDiff, Nat.reduceLT, Nat.reduceEqDiff, Nat.reduceBEq, Int.reduceLE, Int.reduceLT, Int.reduceEq, Int.reduceNeg, Int.reduceAdd, Int.reduceSub, Int.reduceMul, Int.reduceToNat, i_code_Read_1, h1, h2, h3, h4, hd1]
      · refine Ev_run t_code_Read_1 rfl rfl ?_
        simp (maxSteps := 1000000) (disch := first | omega | (simp only [lens, List.length_map]; omega)) only [go_sem, ↓reduceIte, Nat.reduceSub, Nat.reduceAdd, Nat.reduceMul, Nat.reduceLeDiff, Nat.reduceLT, Nat.reduceEqDiff, Nat.reduceBEq, Int.reduceLE, Int.reduceLT, Int.reduceEq, Int.reduceNeg, Int.reduceAdd, Int.reduceSub, Int.reduceMul, Int.reduceToNat, i_code_Read_1, h1, h2, h3, h4, hd1]
    · rw [hc.1 hx] at h4
      refine Ev_run t_code_Read_1 rfl rfl ?_
      simp (maxSteps := 1000000) (disch := first | omega | (simp only [lens, List.length_map]; omega)) only [go_sem, ↓reduceIte, Nat.reduceSub, Nat.reduceAdd, Nat.reduceMul, Nat.reduceLeDiff, Nat.reduceLT, Nat.reduceEqDiff, Nat.reduceBEq, Int.reduceLE, Int.reduceLT, Int.reduceEq, Int.reduceNeg, Int.reduceAdd, Int.reduceSub, Int.reduceMul, Int.reduceToNat, i_code_Read_1, h1, h2, h3, h4, hd1]

end Go.Proofs.Ytkfaahjcncpmhaa
namespace Go.Proofs.Ytkfaahjcncpmhaa
open Go.Ev

theorem read1_ev : ∀ (d : Nat), d ≤ 64 → ∀ (r : Rd) (bad : Bool), r.b.length ≤ 1073741824 → Ev tab G0 n_code_Read_1 [i64 d, .ptr 0 0, .ptr 2 0, .ptr 3 0] (insR r bad) = some ([avT (rdT d r bad).1], insR (rdT d r bad).2.1 (rdT d r bad).2.2) := fun d => by
  induction d with
  | zero =>
    intro hd r bad h
    have hb := r.kd_le
    by_cases h0 : r.kd = 0
    · rw [rdT_z 0 bad (.inl h0)]
      exact read1_0 0 hd r bad h h0
    · by_cases h3 : r.kd = 3
      · rw [rdT_z 0 bad (.inr h3)]
        exact read1_3 0 hd r bad h h3
      · rw [rdT_x 0 bad (by omega) (.inl rfl)]
        by_cases h1 : r.kd = 1
        · exact read1_bad1 0 hd r bad h h1 (.inl rfl)
        · by_cases h2 : r.kd = 2
          · exact read1_bad2 0 hd r bad h h2 (.inl rfl)
          · exact read1_x 0 hd r bad h (by omega)
  | succ d ih =>
    intro hd r bad h
    have ih := ih (by omega)
    have hb := r.kd_le
    by_cases h0 : r.kd = 0
    · rw [rdT_z (d + 1) bad (.inl h0)]
      exact read1_0 (d + 1) hd r bad h h0
    · by_cases h3 : r.kd = 3
      · rw [rdT_z (d + 1) bad (.inr h3)]
        exact read1_3 (d + 1) hd r bad h h3
      · by_cases hx : (hdT r).2.bad = true ∨ bad = true
        · rw [rdT_x (d + 1) bad (by omega) (.inr (.inr hx))]
          by_cases h1 : r.kd = 1
          · exact read1_bad1 (d + 1) hd r bad h h1 (.inr hx)
          · by_cases h2 : r.kd = 2
            · exact read1_bad2 (d + 1) hd r bad h h2 (.inr hx)
            · exact read1_x (d + 1) hd r bad h (by omega)
        · by_cases h1 : r.kd = 1
          · rw [rdT_d d bad (by omega) (fun hh => hh.elim (fun a => a.1 h1) hx)]
            have hb1 : bad = false := by cases bad <;> simp_all
            have hb2 : (hdT r).2.bad = false := by cases e : (hdT r).2.bad <;> simp_all
            subst hb1
            exact read1_good1 d hd ih r h h1 hb2
          · by_cases h2 : r.kd = 2
            · rw [rdT_d d bad (by omega) (fun hh => hh.elim (fun a => a.2 h2) hx)]
              have hb1 : bad = false := by cases bad <;> simp_all
              have hb2 : (hdT r).2.bad = false := by cases e : (hdT r).2.bad <;> simp_all
              subst hb1
              exact read1_good2 d hd ih r h h2 hb2
            · rw [rdT_x (d + 1) bad (by omega) (.inr (.inl ⟨h1, h2⟩))]
              exact read1_x (d + 1) hd r bad h (by omega)
/-- What is amiss with bytes, and their tree. -/
def rdR (b : List UInt8) : T × Rd × Bool := rdT 64 ⟨b, false⟩ false
def rdC (b : List UInt8) : Int := if (rdR b).2.2 = true then 3 else (rdR b).2.1.fin
def rdV (b : List UInt8) : T := if rdC b = 0 then (rdR b).1 else .no
theorem avT_no : avT T.no = .agg [i64 0, .sl true [], .sl true [], .sl true [], .sl true []] := rfl
theorem code_Read_ev (b : List UInt8) (h : b.length ≤ 1048576) : Ev tab G0 n_code_Read [.sl true (eB b)] [] = some ([avT (rdV b), errV (rdC b)], []) := by
  have h1 := coder_NewReader_ev b (by omega)
  have h2 := read1_ev 64 (by omega) ⟨b, false⟩ false (by simp only; omega)
  have hl := rdT_le 64 ⟨b, false⟩ false
  have h3 := coder_End_ev (rdR b).2.1 (Nat.le_trans hl (by simp only; omega))
  unfold rdV rdC
  have hf : (rdR b).2.1.fin = 3 ∨ (rdR b).2.1.fin = 4 ∨ (rdR b).2.1.fin = 0 := by
    unfold Rd.fin
    split
    · exact .inl rfl
    · split
      · exact .inr (.inl rfl)
      · exact .inr (.inr rfl)
  have e64 : ((64 : Nat) : Int) = 64 := rfl
  rw [e64] at h2
  change Ev tab G0 n_code_Read_1 _ _ = some ([avT (rdR b).1], insR (rdR b).2.1 (rdR b).2.2) at h2
  generalize rdR b = p at *
  obtain ⟨t, r, x⟩ := p
  simp only at *
  cases x
  · simp only [Bool.false_eq_true, if_false]
    rcases hf with hf | hf | hf
    · rw [hf, errV, if_neg (by decide)] at h3
      rw [hf, if_neg (by decide), errV, if_neg (by decide), avT_no]
      refine Ev_run t_code_Read rfl rfl ?_
      simp (maxSteps := 1000000) (disch := first | omega | (simp only [lens, List.length_map]; omega)) only [go_sem, ↓reduceIte, Nat.reduceSub, Nat.reduceAdd, Nat.reduceMul, Nat.reduceLeDiff, Nat.reduceLT, Nat.reduceEqDiff, Nat.reduceBEq, Int.reduceLE, Int.reduceLT, Int.reduceEq, Int.reduceNeg, Int.reduceAdd, Int.reduceSub, Int.reduceMul, Int.reduceToNat, i_code_Read, h1, h2, h3, lt_code_Read_1]
    · rw [hf, errV, if_neg (by decide)] at h3
      rw [hf, if_neg (by decide), errV, if_neg (by decide), avT_no]
      refine Ev_run t_code_Read rfl rfl ?_
      simp (maxSteps := 1000000) (disch := first | omega | (simp only [lens, List.length_map]; omega)) only [go_sem, ↓reduceIte, Nat.reduceSub, Nat.reduceAdd, Nat.reduceMul, Nat.reduceLeDiff, Nat.reduceLT, Nat.reduceEqDiff, Nat.reduceBEq, Int.reduceLE, Int.reduceLT, Int.reduceEq, Int.reduceNeg, Int.reduceAdd, Int.reduceSub, Int.reduceMul, Int.reduceToNat, i_code_Read, h1, h2, h3, lt_code_Read_1]
    · rw [hf, errV, if_pos rfl] at h3
      rw [hf, if_pos rfl, errV, if_pos rfl]
      refine Ev_run t_code_Read rfl rfl ?_
      simp (maxSteps := 1000000) (disch := first | omega | (simp only [lens, List.length_map]; omega)) only [go_sem, ↓reduceIte, Nat.reduceSub, Nat.reduceAdd, Nat.reduceMul, Nat.reduceLeDiff, Nat.reduceLT, Nat.reduceEqDiff, Nat.reduceBEq, Int.reduceLE, Int.reduceLT, Int.reduceEq, Int.reduceNeg, Int.reduceAdd, Int.reduceSub, Int.reduceMul, Int.reduceToNat, i_code_Read, h1, h2, h3, lt_code_Read_1]
  · simp only [if_true]
    rw [if_neg (by decide), errV, if_neg (by decide), avT_no]
    refine Ev_run t_code_Read rfl rfl ?_
    simp (maxSteps := 1000000) (disch := first | omega | (simp only [lens, List.length_map]; omega)) only [go_sem, ↓reduceIte, Nat.reduceSub, Nat.reduceAdd, Nat.reduceMul, Nat.reduceLeDiff, Nat.reduceLT, Nat.reduceEqDiff, Nat.reduceBEq, Int.reduceLE, Int.reduceLT, Int.reduceEq, Int.reduceNeg, Int.reduceAdd, Int.reduceSub, Int.reduceMul, Int.reduceToNat, i_code_Read, h1, h2, h3, lt_code_Read_1]

end Go.Proofs.Ytkfaahjcncpmhaa
namespace Go.Proofs.Ytkfaahjcncpmhaa
open Go.Ev

def Rel (r : Rd) (bad : Bool) (w : Rf) : Prop := w.ok ∧ ((bad || r.bad) = w.bad) ∧ (w.bad = false → Sim r w)
theorem kd_bad {r : Rd} (h : r.bad = true) : r.kd = 0 ∧ r.byte.2.bad = true := by
  unfold Rd.kd Rd.byte Rd.take
  rw [if_pos h]
  exact ⟨rfl, rfl⟩
theorem fkd_bad {r : Rf} (h : r.bad = true) : r.kd = 0 ∧ r.byte.2.bad = true := by
  unfold Rf.kd Rf.byte
  rw [if_pos h]
  exact ⟨rfl, rfl⟩
theorem hdT_z {r : Rd} (h : r.kd = 0) : hdT r = (.mk r.kd [] [] [] [], r.byte.2) := hdT_x (by omega) (by omega) (by omega)
theorem rdT_bad : ∀ (d : Nat) (r : Rd), (rdT d r true).2.2 = true := fun d r => by
  by_cases h : r.kd = 0 ∨ r.kd = 3
  · rw [rdT_z d true h]
  · rw [rdT_x d true h (.inr (.inr (.inr rfl)))]
theorem rdT_rbad (d : Nat) (r : Rd) (bad : Bool) (h : r.bad = true) : (rdT d r bad).2.1.bad = true := by
  obtain ⟨h1, h2⟩ := kd_bad h
  rw [rdT_z d bad (.inl h1), hdT_z h1]
  exact h2
theorem rfT_bad (d : Nat) (r : Rf) (h : r.bad = true) : (rfT d r).2.bad = true := by
  obtain ⟨h1, h2⟩ := fkd_bad h
  rw [rfT_0 h1]
  exact h2
theorem sim_kd {r : Rd} {w : Rf} (h : Sim r w) : r.kd = w.kd := by
  unfold Rd.kd Rf.kd
  rw [(sim_byte h).1]
theorem sim_hd {r : Rd} {w : Rf} (h : Sim r w) : (hdT r).1 = (hdF w).1 ∧ Sim (hdT r).2 (hdF w).2 := by
  have hk := sim_kd h
  obtain ⟨_, h1, _⟩ := sim_byte h
  have h2 := sim_bytes h1 80
  by_cases k3 : r.kd = 3
  · rw [hdT_3 k3, hdF_3 (by omega)]
    have h3 := sim_bytes h1 32
    exact ⟨by rw [h3.1], h3.2⟩
  · by_cases k1 : r.kd = 1
    · rw [hdT_1 k1, hdF_1 (by omega)]
      have h3 := sim_bytes h2.2 1024
      exact ⟨by rw [h2.1, h3.1], h3.2⟩
    · by_cases k2 : r.kd = 2
      · rw [hdT_2 k2, hdF_2 (by omega)]
        have h3 := sim_bytes h2.2 32
        exact ⟨by rw [h2.1, h3.1], h3.2⟩
      · rw [hdT_x k3 k1 k2, hdF_x (by omega) (by omega) (by omega), hk]
        exact ⟨rfl, h1⟩
theorem Rel.bad {r : Rd} {bad : Bool} {w : Rf} (hw : w.ok) (h : bad = true ∨ r.bad = true) (hb : w.bad = true) : Rel r bad w := ⟨hw, by rw [hb]; rcases h with h | h <;> simp [h], fun h => by rw [hb] at h; cases h⟩
theorem Rel.good {r : Rd} {w : Rf} (h : Sim r w) : Rel r false w := ⟨h.1, by rw [Bool.false_or]; exact h.2.2.1, fun _ => h⟩
end Go.Proofs.Ytkfaahjcncpmhaa
