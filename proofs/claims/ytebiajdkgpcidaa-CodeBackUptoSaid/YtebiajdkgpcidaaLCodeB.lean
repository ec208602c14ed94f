/-
  What was read is written as those bytes.
-/
import Derived.Test.YtebiajdkgpcidaaLCodeA
set_option linter.unusedSimpArgs false
set_option linter.unusedVariables false
set_option maxRecDepth 200000
set_option maxHeartbeats 4000000
namespace Go.Proofs.Ytebiajdkgpcidaa
open Go.Ev

theorem beB_beV : ∀ (n : Nat) (l : List UInt8), l.length = n → beB n (beV l) = l := fun n => by
  induction n with
  | zero => intro l h; have := List.length_eq_zero_iff.1 h; subst this; rfl
  | succ n ih =>
    intro l h
    rcases List.eq_nil_or_concat l with rfl | ⟨l', x, rfl⟩
    · simp at h
    · rw [List.concat_eq_append] at h ⊢
      simp at h
      have hx := x.toNat_lt
      have hv := beV_nn l'
      have e1 : (beV l' * 256 + (x.toNat : Int)) / 256 = beV l' := by omega
      have e2 : byt (beV l' * 256 + (x.toNat : Int)) = x := by
        apply UInt8.toNat_inj.1
        have := toNat_byt (n := beV l' * 256 + (x.toNat : Int))
        omega
      rw [beV_snoc, beB, e1, ih l' h, e2]
theorem beV_lo : ∀ (n : Nat) (x : UInt8) (l : List UInt8), l.length = n → x.toNat * 256 ^ n ≤ beV (x :: l) := fun n => by
  induction n with
  | zero => intro x l h; have := List.length_eq_zero_iff.1 h; subst this; simp [beV]
  | succ n ih =>
    intro x l h
    rcases List.eq_nil_or_concat l with rfl | ⟨l', y, rfl⟩
    · simp at h
    · rw [List.concat_eq_append] at h ⊢
      simp at h
      have h1 := ih x l' h
      rw [← List.cons_append, beV_snoc, Int.pow_succ, ← Int.mul_assoc]
      have := y.toNat_lt
      generalize (x.toNat : Int) * 256 ^ n = p at *
      omega
theorem nby_beV (l : List UInt8) (h1 : 1 ≤ l.length ∧ l.length ≤ 8) (h2 : ¬ l.getD 0 0 = 0) : nby 8 (beV l) = l.length ∧ 0 < beV l := by
  cases l with
  | nil => simp at h1
  | cons x l =>
    simp only [List.getD_cons_zero] at h2
    have hx : 1 ≤ x.toNat := by
      apply Nat.one_le_iff_ne_zero.2
      intro h
      exact h2 (UInt8.toNat_inj.1 (by simpa using h))
    have hlo := beV_lo l.length x l rfl
    have hp : (0 : Int) < 256 ^ l.length := Int.pow_pos (by decide)
    have hlo2 : (256 : Int) ^ l.length ≤ beV (x :: l) := by
      refine Int.le_trans ?_ hlo
      have : (1 : Int) * 256 ^ l.length ≤ x.toNat * 256 ^ l.length := Int.mul_le_mul_of_nonneg_right (by omega) (Int.le_of_lt hp)
      omega
    have hhi := (beV_nn (x :: l)).2
    have h8 := beV_lt (l := x :: l) (n := 8) h1.2 (by omega)
    obtain ⟨m, e, a1, a2⟩ := nby_spec 8 (beV (x :: l)) (by omega) h8.2
    generalize beV (x :: l) = v at *
    simp only [List.length_cons] at *
    refine ⟨?_, by omega⟩
    rw [e]
    have c1 : ((256 ^ m : Nat) : Int) < ((256 ^ (l.length + 1) : Nat) : Int) := by
      push_cast
      omega
    have c2 : ((256 ^ l.length : Nat) : Int) < ((256 ^ (m + 1) : Nat) : Int) := by
      push_cast
      omega
    have d1 := (Nat.pow_lt_pow_iff_right (a := 256) (by decide)).1 (Int.ofNat_lt.1 c1)
    have d2 := (Nat.pow_lt_pow_iff_right (a := 256) (by decide)).1 (Int.ofNat_lt.1 c2)
    omega
theorem take_inv {b : List UInt8} {n : Int} (h : (Rd.take ⟨b, false⟩ n).2.bad = false) (hn : 0 ≤ n) : b = (Rd.take ⟨b, false⟩ n).1 ++ (Rd.take ⟨b, false⟩ n).2.b ∧ ((Rd.take ⟨b, false⟩ n).1.length : Int) = n := by
  unfold Rd.take at *
  simp only [Bool.false_eq_true, if_false] at *
  split at h
  · cases h
  · rename_i hl
    rw [if_neg hl]
    simp only [List.take_append_drop, List.length_take, true_and]
    omega
theorem byte_inv {b : List UInt8} (h : (Rd.byte ⟨b, false⟩).2.bad = false) : b = (Rd.byte ⟨b, false⟩).1 :: (Rd.byte ⟨b, false⟩).2.b := by
  unfold Rd.byte at *
  simp only at *
  obtain ⟨h1, h2⟩ := take_inv h (by decide)
  generalize Rd.take ⟨b, false⟩ 1 = q at *
  obtain ⟨l, r⟩ := q
  simp only at *
  match l, h2 with
  | [x], _ => simpa using h1
theorem bf {r : Rd} (h : r.bad = false) : r = ⟨r.b, false⟩ := by cases r; simp only at h; rw [h]
theorem num_inv {r : Rd} (h : r.num.2.bad = false) : r.b = num r.num.1 ++ r.num.2.b := by
  have hb := num_nb h
  obtain ⟨b, x⟩ := r
  simp only at hb
  subst hb
  have hc := (Rd.byte ⟨b, false⟩).1.toNat_lt
  have key : (Rd.byte ⟨b, false⟩).2.bad = false := by
    cases e : (Rd.byte ⟨b, false⟩).2.bad
    · rfl
    · unfold Rd.num at h
      split at h
      · rw [e] at h; cases h
      · simp only at h
        split at h
        · cases h
        · unfold Rd.take at h
          rw [if_pos e] at h
          cases h
  have h1 := byte_inv key
  unfold Rd.num at *
  generalize Rd.byte ⟨b, false⟩ = q at *
  obtain ⟨c, b1, x1⟩ := q
  simp only at key
  subst key
  simp only at *
  by_cases hc2 : c.toNat ≤ 247
  · rw [if_pos hc2]
    simp only
    unfold num
    rw [if_pos (by omega), h1]
    have : byt (c.toNat : Int) = c := by
      apply UInt8.toNat_inj.1
      have := toNat_byt (n := (c.toNat : Int))
      omega
    rw [this]
    rfl
  · rw [if_neg hc2] at h ⊢
    split at h
    · cases h
    · rename_i hx
      rw [if_neg hx]
      obtain ⟨a1, a2⟩ := take_inv h (by omega)
      generalize Rd.take ⟨b1, false⟩ (c.toNat - 247) = p at *
      obtain ⟨l, r2⟩ := p
      simp only at *
      obtain ⟨n1, n2⟩ := nby_beV l (by omega) (fun e => hx (.inr (.inl e)))
      unfold num
      rw [if_neg (by omega), n1, beB_beV l.length l rfl, h1]
      have : byt (247 + (l.length : Int)) = c := by
        apply UInt8.toNat_inj.1
        have := toNat_byt (n := 247 + (l.length : Int))
        omega
      rw [this, a1]
      rfl
theorem bytes_inv {r : Rd} {m : Int} (h : (r.bytes m).2.bad = false) : r.b = byts (r.bytes m).1 ++ (r.bytes m).2.b ∧ ((r.bytes m).1.length : Int) ≤ m := by
  have hn := r.num_le
  simp only [Rd.bytes] at *
  split at h
  · cases h
  · rename_i hc
    rw [if_neg hc]
    have hq : r.num.2.bad = false := by
      cases e : r.num.2.bad
      · rfl
      · exact absurd (.inl e) hc
    have h1 := num_inv hq
    rw [bf hq] at h ⊢
    obtain ⟨a1, a2⟩ := take_inv h hn.2.1
    generalize r.num = q at *
    obtain ⟨v, r1⟩ := q
    simp only at *
    generalize Rd.take ⟨r1.b, false⟩ v = p at *
    obtain ⟨l, r2⟩ := p
    simp only at *
    unfold byts
    rw [a2, h1, a1, List.append_assoc]
    exact ⟨rfl, by omega⟩
theorem hdT_inv {r : Rd} (h : (hdT r).2.bad = false) (hk : r.kd ≤ 3) : r.b = (hdT r).1.wr ++ (hdT r).2.b ∧ (hdT r).1.kids = [] ∧ (hdT r).1.kind = r.kd ∧ (hdT r).1.key.length ≤ 80 ∧ (hdT r).1.value.length ≤ 1024 ∧ (hdT r).1.digest.length ≤ 32 ∧ (¬ r.kd = 1 → (hdT r).1.value.length = 0) ∧ (r.kd = 1 → (hdT r).1.digest.length = 0) ∧ (r.kd = 0 ∨ r.kd = 3 → (hdT r).1.key.length = 0) ∧ (r.kd = 0 → (hdT r).1.digest.length = 0) := by
  have hkp := r.kd_le
  have hb0 := (hdT_sz h).2.2
  have hkb : byt r.kd = r.byte.1 := by
    apply UInt8.toNat_inj.1
    have := toNat_byt (n := r.kd)
    have := r.byte.1.toNat_lt
    unfold Rd.kd at *
    omega
  have hby : r.byte.2.bad = false → r.b = r.byte.1 :: r.byte.2.b := fun e => by
    rw [bf hb0] at e ⊢
    exact byte_inv e
  by_cases k3 : r.kd = 3
  · rw [hdT_3 k3] at *
    have h1 := bytes_inv h
    have h2 := hby (bytes_sz h).2
    simp only [wr_nil (T_kids), T_kids, T_kind, T_key, T_value, T_digest, List.length_nil] at *
    rw [k3] at hkb
    unfold hdB
    rw [if_neg (by omega), if_neg (by omega), if_pos rfl, hkb, h2]
    refine ⟨?_, ?_⟩
    · rw [h1.1]; rfl
    · and_intros <;> (try intros) <;> first | rfl | trivial | omega
  · by_cases k1 : r.kd = 1
    · rw [hdT_1 k1] at *
      have h1 := bytes_inv h
      have h2 := bytes_inv (bytes_sz h).2
      have h3 := hby (bytes_sz (bytes_sz h).2).2
      simp only [wr_nil (T_kids), T_kids, T_kind, T_key, T_value, T_digest, List.length_nil] at *
      rw [k1] at hkb
      unfold hdB
      rw [if_pos rfl, hkb, h3]
      refine ⟨?_, ?_⟩
      · rw [h2.1, h1.1]; simp
      · and_intros <;> (try intros) <;> first | rfl | trivial | omega
    · by_cases k2 : r.kd = 2
      · rw [hdT_2 k2] at *
        have h1 := bytes_inv h
        have h2 := bytes_inv (bytes_sz h).2
        have h3 := hby (bytes_sz (bytes_sz h).2).2
        simp only [wr_nil (T_kids), T_kids, T_kind, T_key, T_value, T_digest, List.length_nil] at *
        rw [k2] at hkb
        unfold hdB
        rw [if_neg (by omega), if_pos rfl, hkb, h3]
        refine ⟨?_, ?_⟩
        · rw [h2.1, h1.1]; simp
        · and_intros <;> (try intros) <;> first | rfl | trivial | omega
      · rw [hdT_x k3 k1 k2] at *
        have h3 := hby h
        simp only [wr_nil (T_kids), T_kids, T_kind, T_key, T_value, T_digest, List.length_nil] at *
        unfold hdB
        rw [if_neg (by omega), if_neg (by omega), if_neg (by omega), hkb]
        refine ⟨?_, ?_⟩
        · rw [h3]; rfl
        · and_intros <;> (try intros) <;> first | rfl | trivial | omega
theorem hd_good {r : Rd} (hk : r.kd = 0 ∨ r.kd = 3) (hz : (hdT r).2.bad = false) (d : Int) : r.b = (hdT r).1.wr ++ (hdT r).2.b ∧ (hdT r).1.formed = true ∧ (hdT r).1.long = false ∧ (hdT r).1.deep d = false := by
  have h := hdT_inv hz (by omega)
  obtain ⟨a1, a2, a3, a4, a5, a6, a7, a8, a9, a10⟩ := h
  refine ⟨a1, ?_, ?_, ?_⟩
  · rw [formed_eq, a2]
    simp only [formedL, Bool.and_true, decide_eq_true_eq]
    unfold okT
    rw [a2]
    rcases hk with hk | hk
    · exact .inl ⟨by omega, a9 (.inl hk), a7 (by omega), a10 hk, rfl⟩
    · exact .inr (.inr (.inr ⟨by omega, a9 (.inr hk), a7 (by omega), rfl⟩))
  · rw [long_eq, a2, longL_nil, Bool.or_false]
    simp only [decide_eq_false_iff_not]
    omega
  · rw [deep_eq, a2, if_neg (by simp only [List.length_nil]; omega)]
    rfl
theorem with_kids (t : T) (l : List T) : (t.with l).kids = l := rfl
theorem wr_rd : ∀ (d : Nat) (r : Rd), d ≤ 64 → (rdT d r false).2.2 = false → (rdT d r false).2.1.bad = false → r.b = (rdT d r false).1.wr ++ (rdT d r false).2.1.b ∧ (rdT d r false).1.formed = true ∧ (rdT d r false).1.long = false ∧ (rdT d r false).1.deep d = false := fun d => by
  induction d with
  | zero =>
    intro r hd hx hz
    by_cases h0 : r.kd = 0 ∨ r.kd = 3
    · rw [rdT_z 0 false h0] at *
      exact hd_good h0 hz _
    · rw [rdT_x 0 false h0 (.inl rfl)] at hx
      cases hx
  | succ d ih =>
    intro r hd hx hz
    by_cases h0 : r.kd = 0 ∨ r.kd = 3
    · rw [rdT_z (d + 1) false h0] at *
      exact hd_good h0 hz _
    · by_cases h1 : (¬ r.kd = 1 ∧ ¬ r.kd = 2) ∨ (hdT r).2.bad = true ∨ false = true
      · rw [rdT_x (d + 1) false h0 (.inr h1)] at hx
        cases hx
      · rw [rdT_d d false h0 h1] at *
        simp only at hx hz ⊢
        have hy : (hdT r).2.bad = false := by
          cases e : (hdT r).2.bad
          · rfl
          · exact absurd (.inr (.inl e)) h1
        have hp : (rdT d (hdT r).2 false).2.2 = false := by
          cases e : (rdT d (hdT r).2 false).2.2
          · rfl
          · rw [e, rdT_bad] at hx
            cases hx
        have hp2 : (rdT d (hdT r).2 false).2.1.bad = false := by
          cases e : (rdT d (hdT r).2 false).2.1.bad
          · rfl
          · rw [rdT_rbad d _ _ e] at hz
            cases hz
        have i1 := ih (hdT r).2 (by omega) hp hp2
        rw [hp] at hx hz ⊢
        have i2 := ih _ (by omega) hx hz
        have hk := r.kd_le
        obtain ⟨a1, a2, a3, a4, a5, a6, a7, a8, a9, a10⟩ := hdT_inv hy (by omega)
        generalize rdT d (hdT r).2 false = p at *
        obtain ⟨u, r1, x1⟩ := p
        simp only at *
        generalize rdT d r1 false = q at *
        obtain ⟨v, r2, x2⟩ := q
        simp only at *
        generalize hdT r = g at *
        obtain ⟨t, r0⟩ := g
        simp only at *
        have e1 : t.wr = hdB t.kind t.key t.value t.digest := wr_nil a2
        refine ⟨?_, ?_, ?_, ?_⟩
        · rw [wr_two (t := t.with [u, v]) rfl, a1, e1, i1.1, i2.1]
          simp only [List.append_assoc]
          rfl
        · rw [formed_eq, with_kids]
          simp only [formedL, i1.2.1, i2.2.1, Bool.and_true, decide_eq_true_eq]
          unfold okT
          rw [with_kids]
          show _ ∨ (t.kind = 1 ∧ t.key.length ≤ 80 ∧ t.value.length ≤ 1024 ∧ t.digest.length = 0 ∧ _) ∨ (t.kind = 2 ∧ t.key.length ≤ 80 ∧ t.value.length = 0 ∧ _) ∨ _
          simp only [List.length_cons, List.length_nil]
          have : r.kd = 1 ∨ r.kd = 2 := by omega
          rcases this with h | h
          · exact .inr (.inl ⟨by omega, a4, a5, a8 h, trivial⟩)
          · exact .inr (.inr (.inl ⟨by omega, a4, a7 (by omega), trivial⟩))
        · rw [long_eq, with_kids, longL_cons, longL_cons, longL_nil, i1.2.2.1, i2.2.2.1]
          show (decide (32 < t.digest.length) || _) = false
          simp only [Bool.or_false, decide_eq_false_iff_not]
          omega
        · rw [deep_eq, if_neg (by omega), with_kids]
          have ed : ((d + 1 : Nat) : Int) - 1 = d := by omega
          rw [ed]
          simp only [deepL, i1.2.2.2, i2.2.2.2, Bool.or_false]
/-- What was read without fault. -/
theorem rdC_ok {b : List UInt8} (h : ¬ rdC b = 3) : ∃ t r, rdR b = (t, r, false) ∧ r.bad = false ∧ b = t.wr ++ r.b ∧ t.formed = true ∧ t.long = false ∧ t.deep 64 = false ∧ (rdC b = if r.b.length > 0 then 4 else 0) := by
  have e := wr_rd 64 ⟨b, false⟩ (Nat.le_refl _)
  unfold rdC at *
  change (rdR b).2.2 = false → (rdR b).2.1.bad = false → b = (rdR b).1.wr ++ (rdR b).2.1.b ∧ (rdR b).1.formed = true ∧ (rdR b).1.long = false ∧ (rdR b).1.deep (64 : Nat) = false at e
  generalize rdR b = p at *
  obtain ⟨t, r, x⟩ := p
  simp only at *
  cases x
  · simp only [Bool.false_eq_true, if_false] at h ⊢
    unfold Rd.fin at h ⊢
    cases hb : r.bad
    · rw [hb] at h
      simp only [Bool.false_eq_true, if_false] at h ⊢
      obtain ⟨e1, e2, e3, e4⟩ := e rfl hb
      exact ⟨t, r, rfl, hb, e1, e2, e3, e4, rfl⟩
    · rw [hb] at h
      exact absurd rfl h
  · exact absurd (if_pos rfl) h
theorem chk_of {t : T} (hf : t.formed = true) (hd : t.deep 64 = false) : t.chk = 0 := by
  unfold T.chk
  rw [hd, hf]
  rfl
theorem back_1 {b : List UInt8} (h : rdC b = 0) : wrC (rdV b) = 0 ∧ (rdV b).wr = b := by
  obtain ⟨t, r, e1, e2, e3, e4, e5, e6, e7⟩ := rdC_ok (b := b) (by omega)
  have hv : rdV b = t := by unfold rdV; rw [if_pos h, e1]
  have hl : r.b = [] := by
    rw [h] at e7
    split at e7
    · cases e7
    · exact List.length_eq_zero_iff.1 (by omega)
  rw [hv, wrC_good (chk_of e4 e6) e5, e3, hl, List.append_nil]
  exact ⟨rfl, rfl⟩
theorem wrC_ok {t : T} (h : wrC t = 0) : t.formed = true ∧ t.long = false ∧ t.deep 64 = false := by
  have hc : t.chk = 0 := by
    by_cases hc : t.chk = 0
    · exact hc
    · rw [wrC_bad hc] at h
      exact h
  refine ⟨chk_formed hc, ?_, ?_⟩
  · cases hg : t.long
    · rfl
    · rw [wrC_long hc hg] at h
      cases h
  · unfold T.chk at hc
    split at hc
    · cases hc
    · rename_i hd
      simpa using hd
theorem back_0 {t : T} (h : wrC t = 0) (hs : t.size ≤ 1048576) (rest : List UInt8) : rdR (t.wr ++ rest) = (t, ⟨rest, false⟩, false) := by
  obtain ⟨h1, h2, h3⟩ := wrC_ok h
  exact rd_wr t h1 64 rest (Nat.le_refl _) hs h2 h3
theorem back_2 {t : T} (h : wrC t = 0) (hs : t.size ≤ 1048576) : rdC t.wr = 0 ∧ rdV t.wr = t := by
  have e := back_0 h hs []
  rw [List.append_nil] at e
  have hc : rdC t.wr = 0 := by
    unfold rdC
    rw [e]
    rfl
  refine ⟨hc, ?_⟩
  unfold rdV
  rw [if_pos hc, e]
theorem back_4 {t : T} (h : wrC t = 0) (hs : t.size ≤ 1048576) (x : UInt8) : rdC (t.wr ++ [x]) = 4 := by
  have e := back_0 h hs [x]
  unfold rdC
  rw [e]
  rfl
theorem wr_pos (t : T) : 0 < t.wr.length := by
  rw [wr_eq]
  unfold hdB
  simp
theorem wr_one {t : T} (hf : t.formed = true) (hg : t.long = false) : (hdB t.kind t.key t.value t.digest).length ≤ 1200 := by
  have h := hdB_len t.kind t.key t.value t.digest
  have ho := hd_kind hf
  rw [long_eq] at hg
  simp only [Bool.or_eq_false_iff, decide_eq_false_iff_not] at hg
  unfold okT at ho
  omega
theorem wr_light : ∀ t : T, t.formed = true → t.long = false → ∀ left d : Int, 0 ≤ left → 0 ≤ t.light left d → (t.wr.length : Int) ≤ 1200 * (left - t.light left d) := F_ind
  (fun t hf h hg left d hle hp => by
    have h1 := wr_one hf hg
    rw [wr_nil h]
    rw [light_eq, h] at *
    split at hp
    · omega
    · rename_i hc
      rw [if_neg hc]
      simp only [lightL]
      omega)
  fun t l r hf h _ _ i1 i2 hg left d hle hp => by
    have h1 := wr_one hf hg
    rw [wr_two h, List.length_append, List.length_append]
    rw [long_eq, h, longL_cons, longL_cons, longL_nil] at hg
    simp only [Bool.or_eq_false_iff, decide_eq_false_iff_not] at hg
    rw [light_eq, h] at *
    split at hp
    · omega
    · rename_i hc
      rw [if_neg hc]
      simp only [lightL] at hp ⊢
      have a1 := i1 hg.2.1 (left - 1) (d - 1) (by omega)
      split at hp
      · omega
      · rename_i hq
        rw [if_neg hq]
        have a2 := i2 hg.2.2.1 (l.light (left - 1) (d - 1)) (d - 1) (by omega)
        split at hp
        · omega
        · rename_i hw
          rw [if_neg hw]
          omega
theorem wr_small {t : T} (h : wrC t = 0) (hl : 0 ≤ t.light 300 200) : t.wr.length ≤ 360000 := by
  obtain ⟨h1, h2, h3⟩ := wrC_ok h
  have := wr_light t h1 h2 300 200 (by omega) hl
  omega
theorem rdT_szR {b : List UInt8} (h : (rdR b).2.1.bad = false) : (rdR b).1.size ≤ b.length := by
  have := rdT_sz 64 ⟨b, false⟩ false h
  change (rdR b).1.size + _ ≤ b.length at this
  omega
theorem back_3 {t : T} (h : wrC t = 0) (hs : t.size ≤ 1048576) (hl : 0 ≤ t.light 300 200) : rdC t.wr.dropLast = 3 := by
  by_cases hc : rdC t.wr.dropLast = 3
  · exact hc
  · exfalso
    obtain ⟨u, r, e1, e2, e3, e4, e5, e6, e7⟩ := rdC_ok hc
    have hu : wrC u = 0 := wrC_good (chk_of e4 e6) e5
    have hsm := wr_small h hl
    have hsz : u.size ≤ 1048576 := by
      have := rdT_szR (b := t.wr.dropLast) (by rw [e1]; exact e2)
      rw [e1] at this
      simp only [List.length_dropLast] at this
      omega
    have h1 := back_0 h hs []
    have hne : t.wr ≠ [] := by
      intro hn
      have := wr_pos t
      rw [hn] at this
      simp at this
    have h2 := back_0 hu hsz (r.b ++ [t.wr.getLast hne])
    rw [List.append_nil] at h1
    rw [← List.append_assoc, ← e3, List.dropLast_concat_getLast, h1] at h2
    simp at h2

end Go.Proofs.Ytebiajdkgpcidaa
