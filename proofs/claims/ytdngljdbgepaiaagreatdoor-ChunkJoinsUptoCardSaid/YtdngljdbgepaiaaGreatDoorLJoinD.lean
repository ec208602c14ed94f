/-
  The document's laying together.
-/
import Derived.Test.YtdngljdbgepaiaaGreatDoorLJoin2
import Derived.Test.YtdngljdbgepaiaaGreatDoorLChunk4
set_option linter.unusedSimpArgs false
set_option linter.unusedVariables false
set_option maxRecDepth 200000
set_option maxHeartbeats 4000000
namespace Go.Proofs.YtdngljdbgepaiaaGreatDoor
open Go.Ev

theorem rdark_loop (t : T) (hs : t.size ≤ 1048576) (hk : ∀ k ∈ t.kids, Ev tab G0 n_ref11_Dark [avT k] [] = some ([bo k.drk], [])) : ∀ (n i : Nat), n + i = t.kids.length → L_ref11_Dark_0 (s_ref11_Dark_K0 (.ptr 0 0) (i64 i) [some (oT t)]) = if (t.kids.drop i).any T.drk = true then some (.ret, s_ref11_Dark_R (bo true) [none]) else some (.exit 0, s_ref11_Dark_J0 [none])
  | 0, i, h => by
    have hl := kids_len t
    rw [List.drop_of_length_le (by omega), if_neg (by simp), L_ref11_Dark_0_eq]
    simp (maxSteps := 1000000) (disch := first | omega | (simp only [lens, List.length_map]; omega)) only [go_sem, ↓reduceIte, Nat.reduceSub, Nat.reduceAdd, Nat.reduceMul, Nat.reduceLeDiff, Nat.reduceLT, Nat.reduceEqDiff, Nat.reduceBEq, Int.reduceLE, Int.reduceLT, Int.reduceEq, Int.reduceNeg, Int.reduceAdd, Int.reduceSub, Int.reduceMul, Int.reduceToNat, i_ref11_Dark_b0]
  | n + 1, i, h => by
    have hl := kids_len t
    have ih := rdark_loop t hs hk n (i + 1) (by omega)
    have h1 := hk _ (getD_mem' (d := .no) (i := i) (by omega))
    rw [drop_step (d := .no) (by omega), List.any_cons, L_ref11_Dark_0_eq]
    generalize hd : t.kids.getD i .no = k at *
    try simp (maxSteps := 1000000) (disch := first | omega | (simp only [lens, List.length_map]; omega)) only [go_sem, ↓reduceIte, Nat.reduceSub, Nat.reduceAdd, Nat.reduceMul, Nat.reduceLeDiff, Nat.reduceLT, Nat.reduceEqDiff, Nat.reduceBEq, Int.reduceLE, Int.reduceLT, Int.reduceEq, Int.reduceNeg, Int.reduceAdd, Int.reduceSub, Int.reduceMul, Int.reduceToNat] at ih
    cases hq : k.drk
    · rw [hq] at h1
      rw [Bool.false_or]
      simp (maxSteps := 1000000) (disch := first | omega | (simp only [lens, List.length_map]; omega)) only [go_sem, ↓reduceIte, Nat.reduceSub, Nat.reduceAdd, Nat.reduceMul, Nat.reduceLeDiff, Nat.reduceLT, Nat.reduceEqDiff, Nat.reduceBEq, Int.reduceLE, Int.reduceLT, Int.reduceEq, Int.reduceNeg, Int.reduceAdd, Int.reduceSub, Int.reduceMul, Int.reduceToNat, i_ref11_Dark_b0, hd, h1, ih]
    · rw [hq] at h1
      rw [Bool.true_or, if_pos rfl]
      simp (maxSteps := 1000000) (disch := first | omega | (simp only [lens, List.length_map]; omega)) only [go_sem, ↓reduceIte, Nat.reduceSub, Nat.reduceAdd, Nat.reduceMul, Nat.reduceLeDiff, Nat.reduceLT, Nat.reduceEqDiff, Nat.reduceBEq, Int.reduceLE, Int.reduceLT, Int.reduceEq, Int.reduceNeg, Int.reduceAdd, Int.reduceSub, Int.reduceMul, Int.reduceToNat, i_ref11_Dark_b0, hd, h1]
theorem rDark_ev : ∀ t : T, t.size ≤ 1048576 → Ev tab G0 n_ref11_Dark [avT t] [] = some ([bo t.drk], []) := T_ind fun t ih hs => by
  have hl := kids_len t
  have h := rdark_loop t hs (fun k hk => ih k hk (by have := size_kid hk; omega)) t.kids.length 0 (by omega)
  have e0 : ((0 : Nat) : Int) = 0 := rfl
  rw [List.drop_zero, e0] at h
  rw [drk_eq, drkL_any]
  generalize t.kids.any T.drk = q at *
  refine Ev_run t_ref11_Dark rfl rfl ?_
  by_cases h2 : t.kind = 2
  · rw [decide_eq_true h2, Bool.true_or]
    simp (maxSteps := 1000000) (disch := first | omega | (simp only [lens, List.length_map]; omega)) only [go_sem, ↓reduceIte, Nat.reduceSub, Nat.reduceAdd, Nat.reduceMul, Nat.reduceLeDiff, Nat.reduceLT, Nat.reduceEqDiff, Nat.reduceBEq, Int.reduceLE, Int.reduceLT, Int.reduceEq, Int.reduceNeg, Int.reduceAdd, Int.reduceSub, Int.reduceMul, Int.reduceToNat, i_ref11_Dark, h2]
  · rw [decide_eq_false h2, Bool.false_or]
    cases q
    · rw [if_neg (by simp)] at h
      simp (maxSteps := 1000000) (disch := first | omega | (simp only [lens, List.length_map]; omega)) only [go_sem, ↓reduceIte, Nat.reduceSub, Nat.reduceAdd, Nat.reduceMul, Nat.reduceLeDiff, Nat.reduceLT, Nat.reduceEqDiff, Nat.reduceBEq, Int.reduceLE, Int.reduceLT, Int.reduceEq, Int.reduceNeg, Int.reduceAdd, Int.reduceSub, Int.reduceMul, Int.reduceToNat, i_ref11_Dark, h2, h]
    · rw [if_pos rfl] at h
      simp (maxSteps := 1000000) (disch := first | omega | (simp only [lens, List.length_map]; omega)) only [go_sem, ↓reduceIte, Nat.reduceSub, Nat.reduceAdd, Nat.reduceMul, Nat.reduceLeDiff, Nat.reduceLT, Nat.reduceEqDiff, Nat.reduceBEq, Int.reduceLE, Int.reduceLT, Int.reduceEq, Int.reduceNeg, Int.reduceAdd, Int.reduceSub, Int.reduceMul, Int.reduceToNat, i_ref11_Dark, h2, h]
theorem rfill_ev : ∀ t : T, t.formed = true → t.drk = false → ∀ (ps : List T) (at' : Nat), at' + t.cuts.length ≤ ps.length → t.size ≤ 1048576 → ps.length ≤ 1048576 → Ev tab G0 n_ref11_fill [avT t, .sl true (eT ps), i64 at'] [] = some ([avT (t.fill (ps.drop at')).1, i64 ((at' + t.cuts.length : Nat) : Int)], []) := F_ind
  (fun t hf h hd ps at' hp hs hb => by
    have ea : avT t = .agg [i64 t.kind, .sl true (eB t.key), .sl true (eB t.value), .sl true (eB t.digest), .sl true (eT [])] := by rw [← h]
    rcases kind_nil hf h with h3 | h3
    · rw [fill_nil (by omega) h, cuts_nil (by omega) h, ea]
      simp only [List.length_nil, Nat.add_zero]
      refine Ev_run t_ref11_fill rfl rfl ?_
      simp (maxSteps := 1000000) (disch := first | omega | (simp only [lens, List.length_map]; omega)) only [go_sem, ↓reduceIte, Nat.reduceSub, Nat.reduceAdd, Nat.reduceMul, Nat.reduceLeDiff, Nat.reduceLT, Nat.reduceEqDiff, Nat.reduceBEq, Int.reduceLE, Int.reduceLT, Int.reduceEq, Int.reduceNeg, Int.reduceAdd, Int.reduceSub, Int.reduceMul, Int.reduceToNat, i_ref11_fill, h3]
    · rw [cuts_3 h3] at hp ⊢
      simp only [List.length_cons, List.length_nil] at hp ⊢
      have hg : (ps.drop at').getD 0 .no = ps.getD at' .no := by simp [List.getD]
      rw [fill_3 h3, ea, h3]
      simp only
      rw [hg]
      have e1 : ((at' + (0 + 1) : Nat) : Int) = (at' : Int) + 1 := by omega
      rw [e1]
      generalize hq : ps.getD at' .no = q at *
      refine Ev_run t_ref11_fill rfl rfl ?_
      simp (maxSteps := 1000000) (disch := first | omega | (simp only [lens, List.length_map]; omega)) only [go_sem, ↓reduceIte, Nat.reduceSub, Nat.reduceAdd, Nat.reduceMul, Nat.reduceLeDiff, Nat.reduceLT, Nat.reduceEqDiff, Nat.reduceBEq, Int.reduceLE, Int.reduceLT, Int.reduceEq, Int.reduceNeg, Int.reduceAdd, Int.reduceSub, Int.reduceMul, Int.reduceToNat, i_ref11_fill, hq])
  fun t l r hf h hl hr il ir hd ps at' hp hs hb => by
    have hk := kind_two hf h
    have hdk := drk_two h
    rw [hdk, Bool.or_eq_false_iff, Bool.or_eq_false_iff, decide_eq_false_iff_not] at hd
    have h1 : t.kind = 1 := by omega
    have h3 : ¬ t.kind = 3 := by omega
    rw [cuts_two h3 h, List.length_append] at hp ⊢
    have hsl : l.size ≤ 1048576 := by have := size_kid (t := t) (k := l) (by rw [h]; simp); omega
    have hsr : r.size ≤ 1048576 := by have := size_kid (t := t) (k := r) (by rw [h]; simp); omega
    have a1 := il hd.2.1 ps at' (by omega) hsl hb
    have a2 := ir hd.2.2 ps (at' + l.cuts.length) (by omega) hsr hb
    have hfr := fill_rest l hl (ps.drop at') (by rw [List.length_drop]; omega)
    rw [fill_two h3 h, hfr, List.drop_drop]
    rw [show at' + (l.cuts.length + r.cuts.length) = at' + l.cuts.length + r.cuts.length by omega]
    generalize at' + l.cuts.length = b at *
    generalize b + r.cuts.length = c at *
    have ea : avT t = .agg [i64 t.kind, .sl true (eB t.key), .sl true (eB t.value), .sl true (eB t.digest), .sl true (eT [l, r])] := by rw [← h]
    rw [ea, h1]
    generalize (l.fill (ps.drop at')).1 = u at *
    generalize (r.fill (ps.drop b)).1 = v at *
    simp only [avT_2, eT_2, eB_n0] at *
    refine Ev_run t_ref11_fill rfl rfl ?_
    simp (maxSteps := 1000000) (disch := first | omega | (simp only [lens, List.length_map]; omega)) only [go_sem, ↓reduceIte, Nat.reduceSub, Nat.reduceAdd, Nat.reduceMul, Nat.reduceLeDiff, Nat.reduceLT, Nat.reduceEqDiff, Nat.reduceBEq, Int.reduceLE, Int.reduceLT, Int.reduceEq, Int.reduceNeg, Int.reduceAdd, Int.reduceSub, Int.reduceMul, Int.reduceToNat, i_ref11_fill, h1, a1, a2]
theorem rjoin_loop (w : Int) (hw : 1 ≤ w ∧ w ≤ 32) (h : T) (hh : h.size ≤ 1048576) (ps : List T) (hb : ps.length ≤ 1048576) (hp : ∀ p ∈ ps, p.size ≤ 1048576) : ∀ (n i : Nat), n + i = ps.length → L_ref11_Join_0 (s_ref11_Join_K0 (i64 w) (.sl true (eT ps)) (.ptr 0 0) (.ptr 1 0) (.ptr 2 0) (i64 i) [some (oTb tabK V1), some (oT h), some oN, none]) = match jn w h (ps.drop i) i with
    | none => some (.exit 0, s_ref11_Join_J0 (.sl true (eT ps)) (.ptr 1 0) (.ptr 2 0) [none, some (oT h), some oN, none])
    | some (c, j) => if c = 6 then some (.ret, s_ref11_Join_R (.ptr 2 0) (i64 6) (i64 j) [none, none, some oN, none]) else some (.ret, s_ref11_Join_R (.ptr 2 0) (i64 c) (i64 (-1)) [none, none, some oN, none])
  | 0, i, hn => by
    rw [List.drop_of_length_le (by omega), jn, L_ref11_Join_0_eq]
    simp (maxSteps := 1000000) (disch := first | omega | (simp only [lens, List.length_map]; omega)) only [go_sem, ↓reduceIte, Nat.reduceSub, Nat.reduceAdd, Nat.reduceMul, Nat.reduceLeDiff, Nat.reduceLT, Nat.reduceEqDiff, Nat.reduceBEq, Int.reduceLE, Int.reduceLT, Int.reduceEq, Int.reduceNeg, Int.reduceAdd, Int.reduceSub, Int.reduceMul, Int.reduceToNat, i_ref11_Join_b0]
  | n + 1, i, hn => by
    have ih := rjoin_loop w hw h hh ps hb hp n (i + 1) (by omega)
    have h1 := rFits_ev w h i (ps.getD i .no) (by omega) (by omega) hh (hp _ (getD_mem' (by omega)))
    rw [drop_step (d := .no) (by omega), jn, L_ref11_Join_0_eq]
    generalize hd : ps.getD i .no = p at *
    generalize fitC w h i p = c at *
    try simp (maxSteps := 1000000) (disch := first | omega | (simp only [lens, List.length_map]; omega)) only [go_sem, ↓reduceIte, Nat.reduceSub, Nat.reduceAdd, Nat.reduceMul, Nat.reduceLeDiff, Nat.reduceLT, Nat.reduceEqDiff, Nat.reduceBEq, Int.reduceLE, Int.reduceLT, Int.reduceEq, Int.reduceNeg, Int.reduceAdd, Int.reduceSub, Int.reduceMul, Int.reduceToNat] at ih
    by_cases hc : c = 0
    · rw [if_pos hc]
      rw [hc] at h1
      simp (maxSteps := 1000000) (disch := first | omega | (simp only [lens, List.length_map]; omega)) only [go_sem, ↓reduceIte, Nat.reduceSub, Nat.reduceAdd, Nat.reduceMul, Nat.reduceLeDiff, Nat.reduceLT, Nat.reduceEqDiff, Nat.reduceBEq, Int.reduceLE, Int.reduceLT, Int.reduceEq, Int.reduceNeg, Int.reduceAdd, Int.reduceSub, Int.reduceMul, Int.reduceToNat, i_ref11_Join_b0, hd, h1, ih]
    · rw [if_neg hc]
      simp only
      by_cases h6 : c = 6
      · subst h6
        rw [if_pos rfl]
        simp (maxSteps := 1000000) (disch := first | omega | (simp only [lens, List.length_map]; omega)) only [go_sem, ↓reduceIte, Nat.reduceSub, Nat.reduceAdd, Nat.reduceMul, Nat.reduceLeDiff, Nat.reduceLT, Nat.reduceEqDiff, Nat.reduceBEq, Int.reduceLE, Int.reduceLT, Int.reduceEq, Int.reduceNeg, Int.reduceAdd, Int.reduceSub, Int.reduceMul, Int.reduceToNat, i_ref11_Join_b0, hd, h1]
      · rw [if_neg h6]
        simp (maxSteps := 1000000) (disch := first | omega | (simp only [lens, List.length_map]; omega)) only [go_sem, ↓reduceIte, Nat.reduceSub, Nat.reduceAdd, Nat.reduceMul, Nat.reduceLeDiff, Nat.reduceLT, Nat.reduceEqDiff, Nat.reduceBEq, Int.reduceLE, Int.reduceLT, Int.reduceEq, Int.reduceNeg, Int.reduceAdd, Int.reduceSub, Int.reduceMul, Int.reduceToNat, i_ref11_Join_b0, hd, h1, h6, hc]

end Go.Proofs.YtdngljdbgepaiaaGreatDoor
