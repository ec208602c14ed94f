/-
  Trees written, then read.
-/
import Derived.Test.YtebiajdkgpcidaaLCodeSz
import Derived.Test.YtebiajdkgpcidaaLBack
set_option linter.unusedSimpArgs false
set_option linter.unusedVariables false
set_option maxRecDepth 200000
set_option maxHeartbeats 4000000
namespace Go.Proofs.Ytebiajdkgpcidaa
open Go.Ev

theorem byte_cons (k : UInt8) (rest : List UInt8) : Rd.byte ⟨k :: rest, false⟩ = (k, ⟨rest, false⟩) := by
  simp [Rd.byte, Rd.take]
  rw [if_neg (by omega)]
  simp
theorem rd_wr : ∀ t : T, t.formed = true → ∀ (d : Nat) (rest : List UInt8), d ≤ 64 → t.size ≤ 1048576 → t.long = false → t.deep d = false → rdT d ⟨t.wr ++ rest, false⟩ false = (t, ⟨rest, false⟩, false) := F_ind
  (fun t hf h0 d rest hd hs hg hdp => by
    have ho := hd_kind hf
    have hz := size_eq t
    unfold okT at ho
    rw [h0] at ho
    simp only [List.length_nil] at ho
    rw [long_eq] at hg
    simp only [Bool.or_eq_false_iff, decide_eq_false_iff_not] at hg
    rw [wr_nil h0]
    have hk : t.kind = 0 ∨ t.kind = 3 := by omega
    rcases hk with hk | hk
    · have e := byte_cons (byt 0) rest
      have hkd : Rd.kd ⟨byt 0 :: rest, false⟩ = 0 := by unfold Rd.kd; rw [e]; rfl
      have n1 : t.key = [] := List.length_eq_zero_iff.1 (by omega)
      have n2 : t.value = [] := List.length_eq_zero_iff.1 (by omega)
      have n3 : t.digest = [] := List.length_eq_zero_iff.1 (by omega)
      unfold hdB
      rw [hk, if_neg (by omega), if_neg (by omega), if_neg (by omega)]
      show rdT d ⟨byt 0 :: rest, false⟩ false = _
      rw [rdT_z d false (.inl hkd), hdT_z hkd, hkd, e]
      conv => rhs; rw [← T_eta t, hk, n1, n2, n3, h0]
    · have e := byte_cons (byt 3) (byts t.digest ++ rest)
      have hkd : Rd.kd ⟨byt 3 :: (byts t.digest ++ rest), false⟩ = 3 := by unfold Rd.kd; rw [e]; rfl
      have n1 : t.key = [] := List.length_eq_zero_iff.1 (by omega)
      have n2 : t.value = [] := List.length_eq_zero_iff.1 (by omega)
      have hr := read_byts t.digest (by omega) 32 (by omega) rest
      unfold hdB
      rw [hk, if_neg (by omega), if_neg (by omega), if_pos rfl]
      show rdT d ⟨byt 3 :: (byts t.digest ++ rest), false⟩ false = _
      rw [rdT_z d false (.inr hkd), hdT_3 hkd, e]
      simp only
      rw [hr]
      conv => rhs; rw [← T_eta t, hk, n1, n2, h0])
  fun t l r hf h0 hl hr il ir d rest hd hs hg hdp => by
    have ho := hd_kind hf
    have hz := size_two h0
    unfold okT at ho
    rw [h0] at ho
    simp only [List.length_cons, List.length_nil] at ho
    rw [long_eq, h0, longL_cons, longL_cons, longL_nil] at hg
    simp only [Bool.or_eq_false_iff, decide_eq_false_iff_not] at hg
    have hk : t.kind = 1 ∨ t.kind = 2 := by omega
    rw [deep_eq, h0] at hdp
    cases d with
    | zero =>
      rw [if_pos (by refine ⟨by omega, rfl⟩)] at hdp
      cases hdp
    | succ d =>
      rw [if_neg (by omega)] at hdp
      simp only [deepL, Bool.or_eq_false_iff] at hdp
      have ed : ((d + 1 : Nat) : Int) - 1 = d := by omega
      rw [ed] at hdp
      have i1 := il d (r.wr ++ rest) (by omega) (by omega) hg.2.1 hdp.1
      have i2 := ir d rest (by omega) (by omega) hg.2.2.1 hdp.2.1
      rw [wr_two h0]
      rcases hk with hk | hk
      · have n3 : t.digest = [] := List.length_eq_zero_iff.1 (by omega)
        have e := byte_cons (byt 1) (byts t.key ++ (byts t.value ++ (l.wr ++ (r.wr ++ rest))))
        have hkd : Rd.kd ⟨byt 1 :: (byts t.key ++ (byts t.value ++ (l.wr ++ (r.wr ++ rest)))), false⟩ = 1 := by unfold Rd.kd; rw [e]; rfl
        have r1 := read_byts t.key (by omega) 80 (by omega) (byts t.value ++ (l.wr ++ (r.wr ++ rest)))
        have r2 := read_byts t.value (by omega) 1024 (by omega) (l.wr ++ (r.wr ++ rest))
        have hh : hdT ⟨byt 1 :: (byts t.key ++ (byts t.value ++ (l.wr ++ (r.wr ++ rest)))), false⟩ = (.mk 1 t.key t.value [] [], ⟨l.wr ++ (r.wr ++ rest), false⟩) := by
          rw [hdT_1 hkd, e]
          simp only [r1, r2]
        unfold hdB
        rw [hk, if_pos rfl]
        simp only [List.cons_append, List.append_assoc]
        rw [rdT_d d false (by omega) (by rw [hh]; simp; omega), hh]
        simp only [i1, i2, T.with]
        conv => rhs; rw [← T_eta t, hk, n3, h0]
        rfl
      · have n3 : t.value = [] := List.length_eq_zero_iff.1 (by omega)
        have e := byte_cons (byt 2) (byts t.key ++ (byts t.digest ++ (l.wr ++ (r.wr ++ rest))))
        have hkd : Rd.kd ⟨byt 2 :: (byts t.key ++ (byts t.digest ++ (l.wr ++ (r.wr ++ rest)))), false⟩ = 2 := by unfold Rd.kd; rw [e]; rfl
        have r1 := read_byts t.key (by omega) 80 (by omega) (byts t.digest ++ (l.wr ++ (r.wr ++ rest)))
        have r2 := read_byts t.digest (by omega) 32 (by omega) (l.wr ++ (r.wr ++ rest))
        have hh : hdT ⟨byt 2 :: (byts t.key ++ (byts t.digest ++ (l.wr ++ (r.wr ++ rest)))), false⟩ = (.mk 2 t.key [] t.digest [], ⟨l.wr ++ (r.wr ++ rest), false⟩) := by
          rw [hdT_2 hkd, e]
          simp only [r1, r2]
        unfold hdB
        rw [hk, if_neg (by omega), if_pos rfl]
        simp only [List.cons_append, List.append_assoc]
        rw [rdT_d d false (by omega) (by rw [hh]; simp; omega), hh]
        simp only [i1, i2, T.with]
        conv => rhs; rw [← T_eta t, hk, n3, h0]
        rfl

end Go.Proofs.Ytebiajdkgpcidaa
