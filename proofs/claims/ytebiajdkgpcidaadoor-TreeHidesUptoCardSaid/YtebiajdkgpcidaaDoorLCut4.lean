/-
  Trees in which parts are told by their digests.
-/
import Derived.Test.YtebiajdkgpcidaaDoorLTold
set_option linter.unusedSimpArgs false
set_option linter.unusedVariables false
set_option maxRecDepth 200000
set_option maxHeartbeats 4000000
namespace Go.Proofs.YtebiajdkgpcidaaDoor
open Go.Ev

def cutT (w : Int) (dark : Bool) : Nat → T → T
  | 0, t => .mk 3 [] [] (dgV (t.dig w)) []
  | n + 1, t => match t.kids with
    | [l, r] => if dark = true ∧ t.kind = 1 then .mk 2 t.key [] (dg w (0 :: t.value)) [cutT w dark n l, cutT w dark n r] else .mk t.kind t.key t.value t.digest [cutT w dark n l, cutT w dark n r]
    | _ => t
theorem cutT_nil {w : Int} {dark : Bool} {n : Nat} {t : T} (h : t.kids = []) : cutT w dark (n + 1) t = t := by
  unfold cutT
  rw [h]
theorem cutT_dark {w : Int} {dark : Bool} {n : Nat} {t l r : T} (h : t.kids = [l, r]) (hd : dark = true) (hk : t.kind = 1) : cutT w dark (n + 1) t = .mk 2 t.key [] (dg w (0 :: t.value)) [cutT w dark n l, cutT w dark n r] := by
  conv => lhs; unfold cutT
  rw [h]
  simp only
  rw [if_pos ⟨hd, hk⟩]
theorem cutT_two {w : Int} {dark : Bool} {n : Nat} {t l r : T} (h : t.kids = [l, r]) (hd : ¬ (dark = true ∧ t.kind = 1)) : cutT w dark (n + 1) t = .mk t.kind t.key t.value t.digest [cutT w dark n l, cutT w dark n r] := by
  conv => lhs; unfold cutT
  rw [h]
  simp only
  rw [if_neg hd]
theorem dig_kids {w : Int} {t l r : T} {d : List UInt8} (hw : 1 ≤ w ∧ w ≤ 32) (hf : t.formed = true) (h : t.kids = [l, r]) (hd : t.dig w = some d) : (∃ x, l.dig w = some x) ∧ ∃ y, r.dig w = some y := by
  have ho := okT_of hf
  unfold okT at ho
  rw [h] at ho
  simp only [List.length_cons, List.length_nil] at ho
  have hk : t.kind = 1 ∨ t.kind = 2 := by omega
  rcases hk with hk | hk
  · rw [dig_1 hw hk h] at hd
    cases e1 : l.dig w <;> cases e2 : r.dig w <;> rw [e1, e2] at hd <;> simp_all
  · rw [dig_2 hk h] at hd
    split at hd
    · cases e1 : l.dig w <;> cases e2 : r.dig w <;> rw [e1, e2] at hd <;> simp_all
    · cases hd
theorem deepL_two {l r : T} {b : Int} : deepL [l, r] b = (l.deep b || (r.deep b || false)) := by simp only [deepL]
theorem deep_two {t l r : T} {b : Int} (h : t.kids = [l, r]) : t.deep b = if b = 0 then true else (l.deep (b - 1) || r.deep (b - 1)) := by
  rw [deep_eq, h, deepL_two, Bool.or_false]
  simp only [List.length_cons, List.length_nil]
  by_cases hb : b = 0
  · rw [if_pos ⟨by omega, hb⟩, if_pos hb]
  · rw [if_neg (fun x => hb x.2), if_neg hb]
theorem deep_nil {t : T} {b : Int} (h : t.kids = []) (hk : t.kind = 0 ∨ t.kind = 3) : t.deep b = false := by
  rw [deep_eq, h, if_neg (by simp only [List.length_nil]; omega)]
  rfl
theorem kind_nil {t : T} (hf : t.formed = true) (h : t.kids = []) : t.kind = 0 ∨ t.kind = 3 := by
  have ho := okT_of hf
  unfold okT at ho
  rw [h] at ho
  simp only [List.length_nil] at ho
  omega
theorem kind_two {t l r : T} (hf : t.formed = true) (h : t.kids = [l, r]) : t.kind = 1 ∨ t.kind = 2 := by
  have ho := okT_of hf
  unfold okT at ho
  rw [h] at ho
  simp only [List.length_cons, List.length_nil] at ho
  omega
theorem deep_mono : ∀ t : T, t.formed = true → ∀ b c : Int, 0 ≤ b → b ≤ c → t.deep b = false → t.deep c = false := F_ind
  (fun t hf h b c _ _ _ => deep_nil h (kind_nil hf h))
  fun t l r hf h hl hr il ir b c h0 hbc hd => by
    rw [deep_two h] at hd ⊢
    split at hd
    · cases hd
    · rw [if_neg (by omega)]
      rw [Bool.or_eq_false_iff] at hd ⊢
      exact ⟨il _ _ (by omega) (by omega) hd.1, ir _ _ (by omega) (by omega) hd.2⟩
theorem deep_kids {t l r : T} (hl : l.formed = true) (hr : r.formed = true) (h : t.kids = [l, r]) (hd : t.deep 64 = false) : l.deep 64 = false ∧ r.deep 64 = false := by
  rw [deep_two h, if_neg (by decide), Bool.or_eq_false_iff] at hd
  exact ⟨deep_mono l hl _ _ (by decide) (by decide) hd.1, deep_mono r hr _ _ (by decide) (by decide) hd.2⟩
theorem chk_deep {t : T} (h : t.chk = 0) : t.deep 64 = false := by
  unfold T.chk at h
  split at h
  · cases h
  · rename_i hd
    simpa using hd
theorem chk_good {t : T} (hf : t.formed = true) (hd : t.deep 64 = false) : t.chk = 0 := by
  unfold T.chk
  rw [hd, hf]
  rfl
/-- What is cut: formed, no deeper, of the same digest. -/
theorem cut_law (w : Int) (hw : 1 ≤ w ∧ w ≤ 32) (dark : Bool) : ∀ t : T, t.formed = true → ∀ (n : Nat) (d : List UInt8), t.dig w = some d → (cutT w dark n t).formed = true ∧ (∀ b, 0 ≤ b → t.deep b = false → (cutT w dark n t).deep b = false) ∧ (cutT w dark n t).dig w = some d := F_ind
  (fun t hf h n d hd => by
    cases n with
    | zero =>
      have hl := dig_len w hw t hf d hd
      unfold cutT
      rw [hd]
      simp only [dgV]
      refine ⟨?_, fun b _ _ => deep_nil rfl (.inr rfl), ?_⟩
      · rw [formed_eq]
        simp only [T_kids, formedL, Bool.and_true, decide_eq_true_eq]
        exact .inr (.inr (.inr ⟨rfl, rfl, rfl, rfl⟩))
      · rw [dig_3 rfl, T_digest, if_pos hl]
    | succ n =>
      rw [cutT_nil h]
      exact ⟨hf, fun _ _ hb => hb, hd⟩)
  fun t l r hf h hl hr il ir n d hd => by
    cases n with
    | zero =>
      have hl := dig_len w hw t hf d hd
      unfold cutT
      rw [hd]
      simp only [dgV]
      refine ⟨?_, fun b _ _ => deep_nil rfl (.inr rfl), ?_⟩
      · rw [formed_eq]
        simp only [T_kids, formedL, Bool.and_true, decide_eq_true_eq]
        exact .inr (.inr (.inr ⟨rfl, rfl, rfl, rfl⟩))
      · rw [dig_3 rfl, T_digest, if_pos hl]
    | succ n =>
      obtain ⟨⟨x, ex⟩, y, ey⟩ := dig_kids hw hf h hd
      obtain ⟨l1, l2, l3⟩ := il n x ex
      obtain ⟨r1, r2, r3⟩ := ir n y ey
      have hk := kind_two hf h
      have ho := okT_of hf
      unfold okT at ho
      rw [h] at ho
      simp only [List.length_cons, List.length_nil] at ho
      have dd : ∀ (u : T), u.kids = [cutT w dark n l, cutT w dark n r] → ∀ b, 0 ≤ b → t.deep b = false → u.deep b = false := fun u hu b hb hdb => by
        rw [deep_two h] at hdb
        rw [deep_two hu]
        split at hdb
        · cases hdb
        · rename_i hb0
          rw [if_neg hb0]
          rw [Bool.or_eq_false_iff] at hdb ⊢
          exact ⟨l2 _ (by omega) hdb.1, r2 _ (by omega) hdb.2⟩
      by_cases hc : dark = true ∧ t.kind = 1
      · rw [cutT_dark h hc.1 hc.2]
        have hdl : ((dg w (0 :: t.value)).length : Int) = w := by rw [dg_len _ _ (by omega)]; omega
        refine ⟨?_, dd _ rfl, ?_⟩
        · rw [formed_eq]
          simp only [T_kids, formedL, l1, r1, Bool.and_true, decide_eq_true_eq]
          exact .inr (.inr (.inl ⟨rfl, by simp only [T_key]; omega, rfl, rfl⟩))
        · rw [dig_2 (l := cutT w dark n l) (r := cutT w dark n r) rfl rfl, T_digest, T_key, if_pos hdl, l3, r3]
          rw [dig_1 hw hc.2 h, ex, ey] at hd
          exact hd
      · rw [cutT_two h hc]
        refine ⟨?_, dd _ rfl, ?_⟩
        · rw [formed_eq]
          simp only [T_kids, formedL, l1, r1, Bool.and_true, decide_eq_true_eq]
          unfold okT
          simp only [T_kind, T_key, T_value, T_digest, T_kids, List.length_cons, List.length_nil]
          omega
        · rcases hk with hk | hk
          · rw [dig_1 (l := cutT w dark n l) (r := cutT w dark n r) hw (by exact hk) rfl, T_key, T_value, l3, r3]
            rw [dig_1 hw hk h, ex, ey] at hd
            exact hd
          · rw [dig_2 (l := cutT w dark n l) (r := cutT w dark n r) (by exact hk) rfl, T_key, T_digest, l3, r3]
            rw [dig_2 hk h, ex, ey] at hd
            exact hd
theorem cut_small (w : Int) (hw : 1 ≤ w ∧ w ≤ 32) (dark : Bool) : ∀ t : T, t.formed = true → ∀ (n : Nat) (d : List UInt8) (left b : Int), t.dig w = some d → 0 ≤ left → 0 ≤ t.light left b → ((cutT w dark n t).size : Int) ≤ 1200 * (left - t.light left b) := F_ind
  (fun t hf h n d left b hd hl hp => by
    have hdl := dig_len w hw t hf d hd
    have ho := okT_of hf
    unfold okT at ho
    rw [light_eq, h] at hp ⊢
    split at hp
    · omega
    · rename_i hc
      rw [if_neg hc]
      simp only [lightL]
      cases n with
      | zero =>
        unfold cutT
        rw [hd]
        simp only [dgV, T.size, sizeL, List.length_nil]
        omega
      | succ n =>
        rw [cutT_nil h]
        have hz := size_eq t
        rw [h] at hz
        simp only [sizeL] at hz
        have hk := kind_nil hf h
        rcases hk with hk | hk
        · omega
        · rw [dig_3 hk] at hd
          split at hd
          · omega
          · cases hd)
  fun t l r hf h hfl hfr il ir n d left b hd hl hp => by
    have hdl := dig_len w hw t hf d hd
    have ho := okT_of hf
    unfold okT at ho
    have hlL := light_le l (left - 1) (b - 1)
    obtain ⟨⟨x, ex⟩, y, ey⟩ := dig_kids hw hf h hd
    rw [light_eq, h] at hp ⊢
    split at hp
    · omega
    · rename_i hc
      rw [if_neg hc]
      simp only [lightL] at hp ⊢
      split at hp
      · omega
      · rename_i hq
        rw [if_neg hq]
        split at hp
        · omega
        · rename_i hr
          rw [if_neg hr]
          have hlR := light_le r (l.light (left - 1) (b - 1)) (b - 1)
          cases n with
          | zero =>
            unfold cutT
            rw [hd]
            simp only [dgV, T.size, sizeL, List.length_nil]
            omega
          | succ n =>
            have i1 := il n x (left - 1) (b - 1) ex (by omega) (by omega)
            have i2 := ir n y (l.light (left - 1) (b - 1)) (b - 1) ey (by omega) (by omega)
            have hdg : ((dg w (0 :: t.value)).length : Int) = w := by rw [dg_len _ _ (by omega)]; omega
            by_cases hc : dark = true ∧ t.kind = 1
            · rw [cutT_dark h hc.1 hc.2]
              simp only [T.size, sizeL, List.length_nil]
              omega
            · rw [cutT_two h hc]
              simp only [T.size, sizeL]
              have : t.digest.length ≤ 32 := by
                rcases kind_two hf h with hk | hk
                · omega
                · rw [dig_2 hk h] at hd
                  split at hd
                  · omega
                  · cases hd
              omega
theorem eT_2 {a b : T} : eT [a, b] = [[C.sc (.int .i64 a.kind), .sl (eB a.key), .sl (eB a.value), .sl (eB a.digest), .sl (eT a.kids)], [C.sc (.int .i64 b.kind), .sl (eB b.key), .sl (eB b.value), .sl (eB b.digest), .sl (eT b.kids)]] := by simp only [eT, cells_eq]
theorem avT_2 {k : Int} {a b c : List UInt8} {l : List T} : avT (.mk k a b c l) = .agg [i64 k, .sl true (eB a), .sl true (eB b), .sl true (eB c), .sl true (eT l)] := rfl
theorem avT_lf {k : Int} {a b c : List UInt8} : avT (.mk k a b c []) = .agg [i64 k, .sl true (eB a), .sl true (eB b), .sl true (eB c), .sl true []] := rfl
theorem eB_n0 : eB [] = [] := rfl
theorem cut_ev (w : Int) (hw : 1 ≤ w ∧ w ≤ 32) (dark : Bool) : ∀ t : T, t.formed = true → t.size ≤ 1048576 → t.deep 64 = false → ∀ (n : Nat) (d : List UInt8), n ≤ 7 → t.dig w = some d → Ev tab G0 n_law04_cut [i64 w, avT t, i64 n, bo dark] [] = some ([avT (cutT w dark n t), bo true], []) := F_ind
  (fun t hf h hs hdp n d hn hd => by
    refine Ev_run t_law04_cut rfl rfl ?_
    cases n with
    | zero =>
      have h1 := tree_Digest_ev w hw t hs
      rw [if_pos (chk_good hf hdp), hd] at h1
      unfold cutT
      rw [hd]
      simp only [dgV, dgE] at h1 ⊢
      simp (maxSteps := 1000000) (disch := first | omega | (simp only [List.length_cons, List.length_nil, List.length_append, List.length_map, List.length_take, List.length_drop]; omega)) only [go_sem, ↓reduceIte, Nat.reduceSub, Nat.reduceAdd, Nat.reduceMul, Nat.reduceLeDiff, Nat.reduceLT, Nat.reduceEqDiff, Nat.reduceBEq, Int.reduceLE, Int.reduceLT, Int.reduceEq, Int.reduceNeg, Int.reduceAdd, Int.reduceSub, Int.reduceMul, Int.reduceToNat, i_law04_cut, h1, avT_lf, eB_n0]
    | succ n =>
      rw [cutT_nil h]
      have ea : avT t = .agg [i64 t.kind, .sl true (eB t.key), .sl true (eB t.value), .sl true (eB t.digest), .sl true (eT [])] := by
        rw [← h]
      rw [ea]
      simp (maxSteps := 1000000) (disch := first | omega | (simp only [List.length_cons, List.length_nil, List.length_append, List.length_map, List.length_take, List.length_drop]; omega)) only [go_sem, ↓reduceIte, Nat.reduceSub, Nat.reduceAdd, Nat.reduceMul, Nat.reduceLeDiff, Nat.reduceLT, Nat.reduceEqDiff, Nat.reduceBEq, Int.reduceLE, Int.reduceLT, Int.reduceEq, Int.reduceNeg, Int.reduceAdd, Int.reduceSub, Int.reduceMul, Int.reduceToNat, i_law04_cut, h])
  fun t l r hf h hl hr il ir hs hdp n d hn hd => by
    have hz := size_two h
    cases n with
    | zero =>
      have h1 := tree_Digest_ev w hw t hs
      rw [if_pos (chk_good hf hdp), hd] at h1
      unfold cutT
      rw [hd]
      simp only [dgV, dgE] at h1 ⊢
      refine Ev_run t_law04_cut rfl rfl ?_
      simp (maxSteps := 1000000) (disch := first | omega | (simp only [List.length_cons, List.length_nil, List.length_append, List.length_map, List.length_take, List.length_drop]; omega)) only [go_sem, ↓reduceIte, Nat.reduceSub, Nat.reduceAdd, Nat.reduceMul, Nat.reduceLeDiff, Nat.reduceLT, Nat.reduceEqDiff, Nat.reduceBEq, Int.reduceLE, Int.reduceLT, Int.reduceEq, Int.reduceNeg, Int.reduceAdd, Int.reduceSub, Int.reduceMul, Int.reduceToNat, i_law04_cut, h1, avT_lf, eB_n0]
    | succ n =>
      obtain ⟨⟨x, ex⟩, y, ey⟩ := dig_kids hw hf h hd
      have hdk := deep_kids hl hr h hdp
      have h1 := il (by omega) hdk.1 n x (by omega) ex
      have h2 := ir (by omega) hdk.2 n y (by omega) ey
      have en : (n : Int) + 1 - 1 = n := by omega
      by_cases hdk : dark = true
      · subst hdk
        by_cases hk : t.kind = 1
        · rw [cutT_dark h rfl hk]
          have ho := okT_of hf
          unfold okT at ho
          have h3 := ref01_Made_ev
          have h4 := rdig_ev w hw t hf hs
          rw [rgV_some hd, hd] at h4
          have hdl := dig_len w hw t hf d hd
          have h5 := ref01_Sum_ev (0 :: t.value) (by simp only [List.length_cons]; omega) tabK rfl
          have e0 : byt 0 = 0 := rfl
          have hdg : (shaS (0 :: t.value)).take w.toNat = dg w (0 :: t.value) := rfl
          have hsl := shaS_len (0 :: t.value)
          simp only [Option.isSome] at h4
          have ea : avT t = .agg [i64 1, .sl true (eB t.key), .sl true (eB t.value), .sl true (eB t.digest), .sl true (eT [l, r])] := by rw [← hk, ← h]
          rw [ea] at h4
          try simp (maxSteps := 1000000) (disch := first | omega | (simp only [List.length_cons, List.length_nil, List.length_append, List.length_map, List.length_take, List.length_drop]; omega)) only [go_sem, ↓reduceIte, Nat.reduceSub, Nat.reduceAdd, Nat.reduceMul, Nat.reduceLeDiff, Nat.reduceLT, Nat.reduceEqDiff, Nat.reduceBEq, Int.reduceLE, Int.reduceLT, Int.reduceEq, Int.reduceNeg, Int.reduceAdd, Int.reduceSub, Int.reduceMul, Int.reduceToNat] at h4
          try simp (maxSteps := 1000000) (disch := first | omega | (simp only [List.length_cons, List.length_nil, List.length_append, List.length_map, List.length_take, List.length_drop]; omega)) only [go_sem, ↓reduceIte, Nat.reduceSub, Nat.reduceAdd, Nat.reduceMul, Nat.reduceLeDiff, Nat.reduceLT, Nat.reduceEqDiff, Nat.reduceBEq, Int.reduceLE, Int.reduceLT, Int.reduceEq, Int.reduceNeg, Int.reduceAdd, Int.reduceSub, Int.reduceMul, Int.reduceToNat] at h5
          generalize dg w (0 :: t.value) = v at *
          generalize shaS (0 :: t.value) = sv at *
          generalize cutT w true n l = u1 at *
          generalize cutT w true n r = u2 at *
          simp only [avT_2, eT_2]
          refine Ev_run t_law04_cut rfl rfl ?_
          simp (maxSteps := 1000000) (disch := first | omega | (simp only [List.length_cons, List.length_nil, List.length_append, List.length_map, List.length_take, List.length_drop]; omega)) only [go_sem, ↓reduceIte, Nat.reduceSub, Nat.reduceAdd, Nat.reduceMul, Nat.reduceLeDiff, Nat.reduceLT, Nat.reduceEqDiff, Nat.reduceBEq, Int.reduceLE, Int.reduceLT, Int.reduceEq, Int.reduceNeg, Int.reduceAdd, Int.reduceSub, Int.reduceMul, Int.reduceToNat, i_law04_cut, h, hk, en, h1, h2, h3, h4, h5, e0, hdg, hsl]
        · rw [cutT_two h (fun x => hk x.2)]
          generalize cutT w true n l = u1 at *
          generalize cutT w true n r = u2 at *
          simp only [avT_2, eT_2]
          refine Ev_run t_law04_cut rfl rfl ?_
          simp (maxSteps := 1000000) (disch := first | omega | (simp only [List.length_cons, List.length_nil, List.length_append, List.length_map, List.length_take, List.length_drop]; omega)) only [go_sem, ↓reduceIte, Nat.reduceSub, Nat.reduceAdd, Nat.reduceMul, Nat.reduceLeDiff, Nat.reduceLT, Nat.reduceEqDiff, Nat.reduceBEq, Int.reduceLE, Int.reduceLT, Int.reduceEq, Int.reduceNeg, Int.reduceAdd, Int.reduceSub, Int.reduceMul, Int.reduceToNat, i_law04_cut, h, hk, en, h1, h2]
      · obtain rfl : dark = false := by simpa using hdk
        rw [cutT_two h (fun x => hdk x.1)]
        generalize cutT w false n l = u1 at *
        generalize cutT w false n r = u2 at *
        simp only [avT_2, eT_2]
        refine Ev_run t_law04_cut rfl rfl ?_
        simp (maxSteps := 1000000) (disch := first | omega | (simp only [List.length_cons, List.length_nil, List.length_append, List.length_map, List.length_take, List.length_drop]; omega)) only [go_sem, ↓reduceIte, Nat.reduceSub, Nat.reduceAdd, Nat.reduceMul, Nat.reduceLeDiff, Nat.reduceLT, Nat.reduceEqDiff, Nat.reduceBEq, Int.reduceLE, Int.reduceLT, Int.reduceEq, Int.reduceNeg, Int.reduceAdd, Int.reduceSub, Int.reduceMul, Int.reduceToNat, i_law04_cut, h, en, h1, h2]

end Go.Proofs.YtebiajdkgpcidaaDoor
