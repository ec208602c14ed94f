/-
  What the law's call comes to: its answer is true.
-/
import Derived.Test.YtfihodpdjpcpfaaLSpoil12
set_option linter.unusedSimpArgs false
set_option linter.unusedVariables false
set_option maxRecDepth 200000
set_option maxHeartbeats 4000000
namespace Go.Proofs.Ytfihodpdjpcpfaa
open Go.Ev

abbrev spC (f g : List UInt8) (o : Bool) : List C := [.sl (eB f), .sl (eB g), .sc (.bool o)]
theorem hV_is (f g : List UInt8) (o : Bool) (t : T) : hV (spC f g o) t.cells t.cells = (p3E [] f g o t).h := by
  simp only [hV, cells_map]
  rfl
theorem onlyJ (v3 v5 v6 v7 v9 v10 : Value) (ps : List (List Int × List Int)) (i : Nat) : onlyAt [3, 5, 6, 7, 8, 9, 10, 11] (stJ v3 v5 v6 v7 v9 v10 ps i).t = true := by kernel_rfl
theorem only7 (l : List KV) (f g : List UInt8) (o : Bool) (t : T) : onlyAt [3, 5, 6, 7, 9, 10] (p7S l f g o t).t = true := by kernel_rfl
theorem contract_law (l : List KV) (f g : List UInt8) (o : Bool) (hl : l.length ≤ 1048576) : Contract Try.prog G0 3 [.sl true (eP l), avSpan f g o] [] [.s (.bool true)] [] := by
  obtain ⟨b, hv, hkp, hgr⟩ := ref05_Grown_ev l hl
  obtain ⟨s1, s2, s3⟩ := hkp.size (by omega)
  have hi := isA_of b hkp.good (by omega)
  simp only [avB] at hgr
  generalize b.t = t at *
  have hs : t.size ≤ 1048576 := by omega
  obtain ⟨c, hbody, htr, hres, _, hnt⟩ := trFn_inv ok_law06_ScanStays
  have hc : bodyC = c := by
    have := bodyC_is.symm.trans hbody
    injection this
  have hreg : ∃ id, cAt c [1, 1, 1, 1, 1, 1, 0, 1, 0, 0, 1, 0, 0, 1, 0, 0, 1, 0, 0] = .region id ops12 true := by
    rw [← hc]
    exact ⟨_, reg12⟩
  clear hc
  intro x vals hB hinv hal har hlv
  refine calls_of_wp Try.func3 hbody ?_
  clear hbody
  have hst0 := start_ok (fn := i_law06_ScanStays) hnt hB hinv hal har hlv
  obtain ⟨r0, c, rfl, k0, htr⟩ := trIR_seq htr
  obtain ⟨r1, c, rfl, k1, htr⟩ := trIR_seq htr
  obtain ⟨r2, c, rfl, k2, htr⟩ := trIR_seq htr
  obtain ⟨r3, c, rfl, k3, htr⟩ := trIR_seq htr
  obtain ⟨r4, c, rfl, k4, htr⟩ := trIR_seq htr
  obtain ⟨r5, c, rfl, k5, htr⟩ := trIR_seq htr
  obtain ⟨c6, c, rfl, k6, ktail⟩ := trIR_seq htr
  obtain ⟨r6, c6, rfl, kr, kb⟩ := trIR_seq k6
  obtain ⟨c6, rfl, _, kb⟩ := trIR_block kb
  obtain ⟨cb, rfl, _, kb⟩ := trIR_loop kb
  simp only [cAt, if_true, if_false, Nat.one_ne_zero] at hreg
  refine wp_seq ?_
  have h0 : RelS G0 (x.up 3) (p0S l f g o) _ := keep_rel hst0 (ks [0, 1])
  refine seg_ok (x := x.up 3) tabOk xokN gfN k0 h0 (p0_ev l f g o) fun x1 a1 h1 t1 d1 => ?_
  refine wp_seq ?_
  have h1' := keep_rel h1 (ks [0, 3])
  refine seg_ok tabOk xokN gfN k1 (st := p1S l f g o) h1' (p1_ev l f g o) fun x2 a2 h2 t2 d2 => ?_
  refine wp_seq ?_
  have h2' := keep_rel h2 (ks [0, 3, 5])
  refine seg_ok tabOk xokN gfN k2 (st := p2S l f g o t) h2' (p2_ev l f g o t hgr) fun x3 a3 h3 t3 d3 => ?_
  refine wp_seq ?_
  have h3' := keep_rel h3 (ks [3, 5, 6])
  refine seg_ok tabOk xokN gfN k3 (st := p3S l f g o t) h3' (p3_ev l f g o t hs) fun x4 a4 h4 t4 d4 => ?_
  have h4' := keep_rel h4 (ks [3, 5, 6, 7])
  have t4 : SStep 3 (x.up 3) (Ev.start i_law06_ScanStays [.sl true (eP l), avSpan f g o] []).h x4 (p3E l f g o t).h := ((t1.trans t2).trans t3).trans t4
  have d4 : a4.defers = [] := d4.trans (d3.trans (d2.trans d1))
  have h4r : RelS G0 x4 ⟨keepT (ks [3, 5, 6, 7]) (p3E l f g o t).t, hV (spC f g o) t.cells t.cells⟩ a4 := by
    rw [hV_is]; exact h4'
  have hne : t.cells ≠ [] := by rw [cells_eq]; simp
  obtain ⟨y4, e0, e1, e2, yw, yp, yB, hy4⟩ := box_rows h4r (by simp) hne hne
  have hRe : hR e0 e1 e2 (spC f g o) t.cells t.cells = (p4S e0 e1 e2 l f g o t).h := by
    simp only [hR, cells_len]
    rfl
  have hy4' : RelS G0 y4 (p4S e0 e1 e2 l f g o t) a4 := by
    rw [hRe] at hy4
    exact hy4
  rw [← yw]
  refine wp_seq ?_
  refine reg_ok k4 hy4' (p4_ev e0 e1 e2 l f g o t hs hi) fun x5 a5 h5 t5 d5 => ?_
  refine wp_seq ?_
  have h5' := keep_rel h5 (ks [3, 5, 6, 7, 8, 9])
  refine reg_ok k5 (st := p5S e0 e1 e2 l f g o t) h5' (p5_ev e0 e1 e2 l f g o t hs) fun x6 a6 h6 t6 d6 => ?_
  refine wp_seq (wp_seq ?_)
  have h6' := keep_rel h6 (ks [3, 5, 6, 7, 8, 9, 10])
  refine reg_ok kr (st := p6S e0 e1 e2 l f g o t) h6' (p6_ev e0 e1 e2 l f g o t) fun x7 a7 h7 t7 d7 => ?_
  have T : Step (fun _ => True) y4 (hR e0 e1 e2 (spC f g o) t.cells t.cells) x7 (hR e0 e1 e2 (spC f g o) t.cells t.cells) := by
    rw [hRe]
    exact (t5.trans t6).trans t7
  have d7 : a7.defers = [] := d7.trans (d6.trans (d5.trans d4))
  have r7 : RelS G0 x7 ⟨(p6E e0 e1 e2 l f g o t).t, hR e0 e1 e2 (spC f g o) t.cells t.cells⟩ a7 := by
    rw [hRe]; exact h7
  have q3 := eptr_is (id := 0) (by omega) (r7.val 3)
  have q6 := eptr_is (id := 1) (by omega) (r7.val 6)
  have q7 := eptr_is (id := 2) (by omega) (r7.val 7)
  rw [pin T (by omega), yp] at q3 q6 q7
  have m3 := ptr_is (id := 0) (by omega) (h4r.val 3)
  have m6 := ptr_is (id := 1) (by omega) (h4r.val 6)
  have m7 := ptr_is (id := 2) (by omega) (h4r.val 7)
  have m5 := (h4r.val 5).s_inv
  have q5 := (r7.val 5).s_inv
  have q9 := (r7.val 9).s_inv
  have q10 := (r7.val 10).s_inv
  have hL7 : Low y4.B0 y4.w x7.w := lowR (by rw [yB, yw]; exact Nat.le_refl _) T
  have B7 : x7.B0 = y4.B0 := T.ext.b0
  have hJ : RelS G0 x7 (stJ (a7.tmps.getD 3 undef) (a7.tmps.getD 5 undef) (a7.tmps.getD 6 undef) (a7.tmps.getD 7 undef) (a7.tmps.getD 9 undef) (a7.tmps.getD 10 undef) (toQ (rngL f g o t.list)) 0) a7 := by
    refine bare (t' := (stJ (a7.tmps.getD 3 undef) (a7.tmps.getD 5 undef) (a7.tmps.getD 6 undef) (a7.tmps.getD 7 undef) (a7.tmps.getD 9 undef) (a7.tmps.getD 10 undef) (toQ (rngL f g o t.list)) 0).t) h7 rfl fun i _ => ?_
    by_cases c3 : i = 3
    · subst c3; exact .inl rfl
    by_cases c5 : i = 5
    · subst c5; exact .inl rfl
    by_cases c6 : i = 6
    · subst c6; exact .inl rfl
    by_cases c7 : i = 7
    · subst c7; exact .inl rfl
    by_cases c9 : i = 9
    · subst c9; exact .inl rfl
    by_cases c10 : i = 10
    · subst c10; exact .inl rfl
    by_cases c11 : i = 11
    · subst c11
      refine .inl ?_
      have := (h7.val 11).s_inv
      rw [this]
      rfl
    by_cases c8 : i = 8
    · subst c8
      refine .inr (.inr ⟨qP (toQ (rngL f g o t.list)), rfl, ?_⟩)
      rw [← eP_qP]
      rfl
    · exact .inr (.inl (onlyAt_ok (onlyJ _ _ _ _ _ _ _ _) (by simp; omega)))
  refine wp_block ?_
  have hz := rngL_len f g o t.list
  have hf := chk_formed (isA_chk hi)
  have hsz := list_size t hf
  refine outer kb hreg hJ (by rw [B7]; exact hL7.nf (by rw [yB, ← yw]; exact nf_size _)) (by rw [toQ_len]; omega) (toQ_small (rngL_small t hs hi f g o)) fun x8 a8 h8 B8 L8 d8 => ?_
  rw [B7] at L8
  have L9 : Low x4.w.heap.size x4.w x8.w := by
    have := hL7.trans L8
    rwa [yB, yw] at this
  have v3 := (h8.val 3).s_inv
  have v5 := (h8.val 5).s_inv
  have v6 := (h8.val 6).s_inv
  have v7 := (h8.val 7).s_inv
  have v9 := (h8.val 9).s_inv
  have v10 := (h8.val 10).s_inv
  have h9 : RelS G0 { x4 with w := x8.w } (p7S l f g o t) a8 := by
    refine relSLow (st' := p7S l f g o t) h4' L9.size L9.low rfl rfl (by
      have e1 := h8.size
      have e2 := h4'.size
      exact e1.trans e2.symm) fun i _ => ?_
    by_cases c3 : i = 3
    · subst c3; exact .inl ⟨rfl, by rw [v3, q3, m3]⟩
    by_cases c5 : i = 5
    · subst c5; exact .inl ⟨rfl, by rw [v5, q5, m5]⟩
    by_cases c6 : i = 6
    · subst c6; exact .inl ⟨rfl, by rw [v6, q6, m6]⟩
    by_cases c7 : i = 7
    · subst c7; exact .inl ⟨rfl, by rw [v7, q7, m7]⟩
    by_cases c9 : i = 9
    · subst c9; exact .inr (.inl ⟨_, rfl, by rw [v9, q9]⟩)
    by_cases c10 : i = 10
    · subst c10; exact .inr (.inl ⟨_, rfl, by rw [v10, q10]⟩)
    · exact .inr (.inr (onlyAt_ok (only7 _ _ _ _ _) (by simp; omega)))
  have t9 := stepLow (D := fun id => 3 ≤ id) h4.inv L9
  show Code.wp _ _ _ _ ({ x4 with w := x8.w } : Cx).w
  refine seg_ok (tab := tab) tabOk xokN gfN ktail h9 (tail_ev l f g o t hs hi) fun x10 a10 h10 t10 d10 => ?_
  have tt : SStep i_law06_ScanStays.ns (x.up i_law06_ScanStays.ns) (Ev.start i_law06_ScanStays [.sl true (eP l), avSpan f g o] []).h x10 (s_law06_ScanStays_R (bo true) [none, none, none]).h := (t4.trans t9).trans t10
  obtain ⟨us, hrun, x3, hw, hpost⟩ := finish_ok (P := Try.prog) (fn := i_law06_ScanStays) (ins := []) (rs := [.s (.bool true)]) (outs := []) (func := Try.f3) h10 tt hres rfl
  exact ⟨d10.trans (d8.trans d7), mkRes us, hrun, us, rfl, x3, hw, hpost⟩

end Go.Proofs.Ytfihodpdjpcpfaa
