/-
  A head and parts, laid together: the whole; plain facts.
-/
import Derived.Test.YtebiajdkgpcidaaDoorLJoin
set_option linter.unusedSimpArgs false
set_option linter.unusedVariables false
set_option maxRecDepth 200000
set_option maxHeartbeats 4000000
namespace Go.Proofs.YtebiajdkgpcidaaDoor
open Go.Ev

theorem fitC_0 {w : Int} {h : T} {i : Int} {p : T} (hf : fitC w h i p = 0) : (1 ≤ w ∧ w ≤ 32) ∧ h.chk = 0 ∧ p.chk = 0 ∧ p.full = true ∧ ∃ d, p.dig w = some d ∧ (h.cuts.getD i.toNat .no).digest = d := by
  unfold fitC at hf
  by_cases h1 : 1 ≤ w ∧ w ≤ 32
  · rw [if_neg (fun x => x h1)] at hf
    by_cases h2 : h.chk = 0
    · rw [if_neg (fun x => x h2)] at hf
      by_cases h3 : p.chk = 0
      · rw [if_neg (fun x => x h3)] at hf
        split at hf
        · cases hf
        · rename_i h4
          split at hf
          · cases hf
          · split at hf
            · rename_i h6
              cases hd : p.dig w with
              | none => rw [hd] at h4; simp at h4
              | some d =>
                rw [hd] at h6
                refine ⟨h1, h2, h3, ?_, d, rfl, ?_⟩
                · cases e : p.full
                  · exact absurd (.inr (.inl e)) h4
                  · rfl
                · simpa [dgV] using h6
            · cases hf
      · rw [if_pos h3] at hf
        exact absurd hf h3
    · rw [if_pos h2] at hf
      exact absurd hf h2
  · rw [if_pos h1] at hf
    cases hf
theorem jn_none {w : Int} {h : T} : ∀ (ps : List T) (i : Nat), jn w h ps i = none → ∀ k, k < ps.length → fitC w h ((i + k : Nat) : Int) (ps.getD k .no) = 0
  | [], i, _, k, hk => by simp at hk
  | p :: r, i, hj, k, hk => by
    unfold jn at hj
    split at hj
    · rename_i h0
      cases k with
      | zero => simpa using h0
      | succ k =>
        have := jn_none r (i + 1) hj k (by simpa using hk)
        rw [show i + (k + 1) = i + 1 + k by omega]
        simpa using this
    · cases hj
theorem jn_some {w : Int} {h : T} : ∀ (ps : List T) (i : Nat), (∀ k, k < ps.length → fitC w h ((i + k : Nat) : Int) (ps.getD k .no) = 0) → jn w h ps i = none
  | [], i, _ => rfl
  | p :: r, i, hk => by
    unfold jn
    have h0 := hk 0 (by simp)
    simp only [Nat.add_zero, List.getD_cons_zero] at h0
    rw [if_pos h0]
    refine jn_some r (i + 1) fun k hkk => ?_
    have := hk (k + 1) (by simpa using hkk)
    rw [show i + 1 + k = i + (k + 1) by omega]
    simpa using this
theorem jn_nz {w : Int} {h : T} : ∀ (ps : List T) (i : Nat) (c : Int) (j : Nat), jn w h ps i = some (c, j) → ¬ c = 0 ∧ ∃ p, c = fitC w h j p
  | [], i, c, j, hj => by simp [jn] at hj
  | p :: r, i, c, j, hj => by
    unfold jn at hj
    split at hj
    · exact jn_nz r (i + 1) c j hj
    · rename_i h0
      simp only [Option.some.injEq, Prod.mk.injEq] at hj
      obtain ⟨h1, h2⟩ := hj
      subst h2
      exact ⟨by rw [← h1]; exact h0, p, h1.symm⟩
theorem jn_idx {w : Int} {h : T} : ∀ (ps : List T) (i : Nat) (c : Int) (j : Nat), jn w h ps i = some (c, j) → i ≤ j ∧ j < i + ps.length
  | [], i, c, j, hj => by simp [jn] at hj
  | p :: r, i, c, j, hj => by
    unfold jn at hj
    split at hj
    · have := jn_idx r (i + 1) c j hj
      simp only [List.length_cons]
      omega
    · simp only [Option.some.injEq, Prod.mk.injEq] at hj
      simp only [List.length_cons]
      omega
/-- What is laid together, where all is well. -/
def joinOk (w : Int) (h : T) (ps : List T) : Prop := (1 ≤ w ∧ w ≤ 32) ∧ h.chk = 0 ∧ h.cuts.length = ps.length ∧ h.drk = false ∧ jn w h ps 0 = none ∧ (h.fill ps).1.chk = 0
theorem fill_size : ∀ t : T, t.formed = true → ∀ ps : List T, t.cuts.length ≤ ps.length → (t.fill ps).1.size ≤ t.size + sizeL (ps.take t.cuts.length) := F_ind
  (fun t hf h ps hp => by
    by_cases h3 : t.kind = 3
    · rw [cuts_3 h3] at hp ⊢
      rw [fill_3 h3]
      cases ps with
      | nil => simp at hp
      | cons p r => simp only [List.getD_cons_zero, List.length_cons, List.length_nil, List.take_succ_cons, List.take_zero, sizeL]; omega
    · rw [fill_nil h3 h]
      simp only
      omega)
  fun t l r hf h hl hr il ir ps hp => by
    have h3 : ¬ t.kind = 3 := by rcases kind_two hf h with hk | hk <;> omega
    have hz := size_two h
    rw [cuts_two h3 h, List.length_append] at hp ⊢
    have i1 := il ps (by omega)
    have i2 := ir (l.fill ps).2 (by rw [fill_rest l hl ps (by omega), List.length_drop]; omega)
    rw [fill_two h3 h]
    simp only [T.size, sizeL, List.length_nil]
    have e : sizeL (ps.take (l.cuts.length + r.cuts.length)) = sizeL (ps.take l.cuts.length) + sizeL ((l.fill ps).2.take r.cuts.length) := by
      rw [fill_rest l hl ps (by omega), List.take_add]
      generalize ps.take l.cuts.length = a
      generalize (ps.drop l.cuts.length).take r.cuts.length = b
      induction a with
      | nil => simp [sizeL]
      | cons x a ih => simp only [List.cons_append, sizeL, ih]; omega
    omega
theorem sizeL_take (l : List T) : ∀ n, sizeL (l.take n) ≤ sizeL l := by
  induction l with
  | nil => intro n; simp
  | cons x l ih =>
    intro n
    cases n with
    | zero => simp [sizeL]
    | succ n =>
      have := ih n
      simp only [List.take_succ_cons, sizeL]
      omega
theorem chunk_Join_good (w : Int) (h : T) (ps : List T) (hs : h.size + sizeL ps ≤ 1048576) (hj : joinOk w h ps) : Ev tab G0 n_chunk_Join [i64 w, avT h, .sl true (eT ps)] [] = some ([avT (h.fill ps).1, .s .nilIface], []) := by
  obtain ⟨hw, hc, hl, hd, hn, hu⟩ := hj
  have hll := sizeL_len ps
  have h1 := chunk_width_ev w (by omega)
  rw [decide_eq_true hw] at h1
  have h2 := tree_Check_ev h (by omega)
  rw [hc, errV, if_pos rfl] at h2
  have h3 := chunk_cuts_ev h (by omega)
  have h4 := chunk_dark_ev h (by omega)
  rw [hd] at h4
  have h5 := join_loop w hw h (by omega) ps (by omega) (fun p hp => by have := sizeL_mem hp; omega) ps.length 0 (by omega)
  have e0 : ((0 : Nat) : Int) = 0 := rfl
  rw [List.drop_zero, hn, e0] at h5
  simp only at h5
  have h6 := join1_ev h (chk_formed hc) ps (by omega) (by omega) (by omega)
  have hfs := fill_size h (chk_formed hc) ps (by omega)
  have htk := sizeL_take ps h.cuts.length
  have h7 := tree_Check_ev (h.fill ps).1 (by omega)
  rw [hu, errV, if_pos rfl] at h7
  generalize h.fill ps = q at *
  obtain ⟨u, rest⟩ := q
  simp only at *
  refine Ev_run t_chunk_Join rfl rfl ?_
  simp (maxSteps := 1000000) (disch := first | omega | (simp only [List.length_cons, List.length_nil, List.length_append, List.length_map, List.length_take, List.length_drop]; omega)) only [go_sem, ↓reduceIte, Nat.reduceSub, Nat.reduceAdd, Nat.reduceMul, Nat.reduceLeDiff, Nat.reduceLT, Nat.reduceEqDiff, Nat.reduceBEq, Int.reduceLE, Int.reduceLT, Int.reduceEq, Int.reduceNeg, Int.reduceAdd, Int.reduceSub, Int.reduceMul, Int.reduceToNat, i_chunk_Join, h1, h2, h3, h4, h5, h6, h7, hl, lt_join1]
theorem chunk_Join_bad (w : Int) (h : T) (ps : List T) (hwb : -9223372036854775808 ≤ w ∧ w < 9223372036854775808) (hs : h.size + sizeL ps ≤ 1048576) (hj : ¬ joinOk w h ps) : (∃ c : Int, Ev tab G0 n_chunk_Join [i64 w, avT h, .sl true (eT ps)] [] = some ([avT T.no, errA c], [])) ∨ ∃ j : Int, Ev tab G0 n_chunk_Join [i64 w, avT h, .sl true (eT ps)] [] = some ([avT T.no, .ifc ty_api_Spot (.ptr 0 0)], [.var [i64 j, errA 6]]) := by
  have hll := sizeL_len ps
  have h1 := chunk_width_ev w hwb
  have e0 : avT T.no = .agg [i64 0, .sl true [], .sl true [], .sl true [], .sl true []] := rfl
  rw [e0]
  by_cases hw : 1 ≤ w ∧ w ≤ 32
  · rw [decide_eq_true hw] at h1
    have h2 := tree_Check_ev h (by omega)
    by_cases hc : h.chk = 0
    · rw [hc, errV, if_pos rfl] at h2
      have h3 := chunk_cuts_ev h (by omega)
      have h4 := chunk_dark_ev h (by omega)
      by_cases hl : h.cuts.length = ps.length
      · cases hd : h.drk
        · rw [hd] at h4
          have h5 := join_loop w hw h (by omega) ps (by omega) (fun p hp => by have := sizeL_mem hp; omega) ps.length 0 (by omega)
          have ez : ((0 : Nat) : Int) = 0 := rfl
          rw [List.drop_zero, ez] at h5
          cases hn : jn w h ps 0 with
          | none =>
            rw [hn] at h5
            simp only at h5
            have h6 := join1_ev h (chk_formed hc) ps (by omega) (by omega) (by omega)
            have hfs := fill_size h (chk_formed hc) ps (by omega)
            have htk := sizeL_take ps h.cuts.length
            have h7 := tree_Check_ev (h.fill ps).1 (by omega)
            have hu : ¬ (h.fill ps).1.chk = 0 := fun hu => hj ⟨hw, hc, hl, hd, hn, hu⟩
            rw [errV, if_neg hu] at h7
            generalize h.fill ps = q at *
            obtain ⟨u, rest⟩ := q
            simp only at *
            generalize u.chk = c at *
            refine .inl ⟨c, Ev_run t_chunk_Join rfl rfl ?_⟩
            simp (maxSteps := 1000000) (disch := first | omega | (simp only [List.length_cons, List.length_nil, List.length_append, List.length_map, List.length_take, List.length_drop]; omega)) only [go_sem, ↓reduceIte, Nat.reduceSub, Nat.reduceAdd, Nat.reduceMul, Nat.reduceLeDiff, Nat.reduceLT, Nat.reduceEqDiff, Nat.reduceBEq, Int.reduceLE, Int.reduceLT, Int.reduceEq, Int.reduceNeg, Int.reduceAdd, Int.reduceSub, Int.reduceMul, Int.reduceToNat, i_chunk_Join, h1, h2, h3, h4, h5, h6, h7, hl, lt_join1]
          | some q =>
            obtain ⟨c, j⟩ := q
            rw [hn] at h5
            simp only at h5
            by_cases h6 : c = 6
            · rw [if_pos h6] at h5
              refine .inr ⟨j, Ev_run t_chunk_Join rfl rfl ?_⟩
              simp (maxSteps := 1000000) (disch := first | omega | (simp only [List.length_cons, List.length_nil, List.length_append, List.length_map, List.length_take, List.length_drop]; omega)) only [go_sem, ↓reduceIte, Nat.reduceSub, Nat.reduceAdd, Nat.reduceMul, Nat.reduceLeDiff, Nat.reduceLT, Nat.reduceEqDiff, Nat.reduceBEq, Int.reduceLE, Int.reduceLT, Int.reduceEq, Int.reduceNeg, Int.reduceAdd, Int.reduceSub, Int.reduceMul, Int.reduceToNat, i_chunk_Join, h1, h2, h3, h4, h5, hl]
            · rw [if_neg h6] at h5
              refine .inl ⟨c, Ev_run t_chunk_Join rfl rfl ?_⟩
              simp (maxSteps := 1000000) (disch := first | omega | (simp only [List.length_cons, List.length_nil, List.length_append, List.length_map, List.length_take, List.length_drop]; omega)) only [go_sem, ↓reduceIte, Nat.reduceSub, Nat.reduceAdd, Nat.reduceMul, Nat.reduceLeDiff, Nat.reduceLT, Nat.reduceEqDiff, Nat.reduceBEq, Int.reduceLE, Int.reduceLT, Int.reduceEq, Int.reduceNeg, Int.reduceAdd, Int.reduceSub, Int.reduceMul, Int.reduceToNat, i_chunk_Join, h1, h2, h3, h4, h5, hl]
        · rw [hd] at h4
          refine .inl ⟨3, Ev_run t_chunk_Join rfl rfl ?_⟩
          simp (maxSteps := 1000000) (disch := first | omega | (simp only [List.length_cons, List.length_nil, List.length_append, List.length_map, List.length_take, List.length_drop]; omega)) only [go_sem, ↓reduceIte, Nat.reduceSub, Nat.reduceAdd, Nat.reduceMul, Nat.reduceLeDiff, Nat.reduceLT, Nat.reduceEqDiff, Nat.reduceBEq, Int.reduceLE, Int.reduceLT, Int.reduceEq, Int.reduceNeg, Int.reduceAdd, Int.reduceSub, Int.reduceMul, Int.reduceToNat, i_chunk_Join, h1, h2, h3, h4, hl]
      · refine .inl ⟨3, Ev_run t_chunk_Join rfl rfl ?_⟩
        simp (maxSteps := 1000000) (disch := first | omega | (simp only [List.length_cons, List.length_nil, List.length_append, List.length_map, List.length_take, List.length_drop]; omega)) only [go_sem, ↓reduceIte, Nat.reduceSub, Nat.reduceAdd, Nat.reduceMul, Nat.reduceLeDiff, Nat.reduceLT, Nat.reduceEqDiff, Nat.reduceBEq, Int.reduceLE, Int.reduceLT, Int.reduceEq, Int.reduceNeg, Int.reduceAdd, Int.reduceSub, Int.reduceMul, Int.reduceToNat, i_chunk_Join, h1, h2, h3, hl]
    · rw [errV, if_neg hc] at h2
      generalize h.chk = c at *
      refine .inl ⟨c, Ev_run t_chunk_Join rfl rfl ?_⟩
      simp (maxSteps := 1000000) (disch := first | omega | (simp only [List.length_cons, List.length_nil, List.length_append, List.length_map, List.length_take, List.length_drop]; omega)) only [go_sem, ↓reduceIte, Nat.reduceSub, Nat.reduceAdd, Nat.reduceMul, Nat.reduceLeDiff, Nat.reduceLT, Nat.reduceEqDiff, Nat.reduceBEq, Int.reduceLE, Int.reduceLT, Int.reduceEq, Int.reduceNeg, Int.reduceAdd, Int.reduceSub, Int.reduceMul, Int.reduceToNat, i_chunk_Join, h1, h2]
  · rw [decide_eq_false hw] at h1
    refine .inl ⟨1, Ev_run t_chunk_Join rfl rfl ?_⟩
    simp (maxSteps := 1000000) (disch := first | omega | (simp only [List.length_cons, List.length_nil, List.length_append, List.length_map, List.length_take, List.length_drop]; omega)) only [go_sem, ↓reduceIte, Nat.reduceSub, Nat.reduceAdd, Nat.reduceMul, Nat.reduceLeDiff, Nat.reduceLT, Nat.reduceEqDiff, Nat.reduceBEq, Int.reduceLE, Int.reduceLT, Int.reduceEq, Int.reduceNeg, Int.reduceAdd, Int.reduceSub, Int.reduceMul, Int.reduceToNat, i_chunk_Join, h1]
/-! ### What is laid together has the head's digest -/
theorem getD_app_l {a b : List T} {k : Nat} (h : k < a.length) : (a ++ b).getD k .no = a.getD k .no := by
  simp only [List.getD_eq_getElem?_getD, List.getElem?_append_left h]
theorem getD_app_r {a b : List T} {k : Nat} (h : a.length ≤ k) : (a ++ b).getD k .no = b.getD (k - a.length) .no := by
  simp only [List.getD_eq_getElem?_getD, List.getElem?_append_right h]
theorem drk_two {t l r : T} (h : t.kids = [l, r]) : t.drk = (decide (t.kind = 2) || (l.drk || r.drk)) := by
  rw [drk_eq, h]
  simp only [drkL, Bool.or_false]
theorem fill_law (w : Int) (hw : 1 ≤ w ∧ w ≤ 32) : ∀ t : T, t.formed = true → t.drk = false → ∀ ps : List T, t.cuts.length ≤ ps.length → (∀ k, k < t.cuts.length → (ps.getD k .no).formed = true ∧ (ps.getD k .no).full = true ∧ (ps.getD k .no).dig w = some (t.cuts.getD k .no).digest) → (t.fill ps).1.full = true ∧ ∃ d, t.dig w = some d ∧ (t.fill ps).1.dig w = some d := F_ind
  (fun t hf h hd ps hp hk => by
    by_cases h3 : t.kind = 3
    · rw [cuts_3 h3] at hp hk
      obtain ⟨a1, a2, a3⟩ := hk 0 (by simp)
      rw [fill_3 h3]
      simp only [List.getD_cons_zero] at a3
      have hl := dig_len w hw _ a1 _ a3
      refine ⟨a2, t.digest, ?_, a3⟩
      rw [dig_3 h3, if_pos hl]
    · rw [fill_nil h3 h]
      have hk0 : t.kind = 0 := by rcases kind_nil hf h with hk | hk <;> omega
      refine ⟨?_, dg w [3], dig_0 hk0, dig_0 hk0⟩
      simp only
      rw [full_eq, h, if_neg (by omega)]
      rfl)
  fun t l r hf h hl hr il ir hd ps hp hk => by
    have h3 : ¬ t.kind = 3 := by rcases kind_two hf h with hk | hk <;> omega
    rw [drk_two h] at hd
    simp only [Bool.or_eq_false_iff, decide_eq_false_iff_not] at hd
    have hk1 : t.kind = 1 := by rcases kind_two hf h with hk | hk <;> omega
    rw [cuts_two h3 h] at hp hk
    rw [List.length_append] at hp hk
    have i1 := il hd.2.1 ps (by omega) (fun k hkk => by
      have := hk k (by omega)
      rwa [getD_app_l hkk] at this)
    have hrest := fill_rest l hl ps (by omega)
    have i2 := ir hd.2.2 (l.fill ps).2 (by rw [hrest, List.length_drop]; omega) (fun k hkk => by
      have := hk (l.cuts.length + k) (by omega)
      rw [getD_app_r (by omega)] at this
      rw [hrest]
      have e : (ps.drop l.cuts.length).getD k .no = ps.getD (l.cuts.length + k) .no := by
        simp only [List.getD_eq_getElem?_getD, List.getElem?_drop]
      rw [e]
      have e2 : l.cuts.length + k - l.cuts.length = k := by omega
      rw [e2] at this
      exact this)
    obtain ⟨f1, x, x1, x2⟩ := i1
    obtain ⟨f2, y, y1, y2⟩ := i2
    rw [fill_two h3 h]
    simp only
    refine ⟨?_, dg w (nodeP x (dg w (pairP t.key (dg w (0 :: t.value)))) y), ?_, ?_⟩
    · rw [full_eq, if_neg (by simp only [T_kind]; omega)]
      simp only [T_kids, fullL, f1, f2, Bool.and_self]
    · rw [dig_1 hw hk1 h, x1, y1]
    · rw [dig_1 (l := (l.fill ps).1) (r := (r.fill (l.fill ps).2).1) hw (by exact hk1) rfl, x2, y2]
      rfl
theorem join_law {w : Int} {h : T} {ps : List T} (hj : joinOk w h ps) : (h.fill ps).1.full = true ∧ ∃ d, h.dig w = some d ∧ (h.fill ps).1.dig w = some d := by
  obtain ⟨hw, hc, hl, hd, hn, hu⟩ := hj
  refine fill_law w hw h (chk_formed hc) hd ps (by omega) fun k hk => ?_
  have := jn_none ps 0 hn k (by omega)
  obtain ⟨_, _, p1, p2, d, p3, p4⟩ := fitC_0 this
  refine ⟨chk_formed p1, p2, ?_⟩
  rw [p3, ← p4]
  congr 3
  omega

end Go.Proofs.YtebiajdkgpcidaaDoor
