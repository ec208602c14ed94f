/-
  A head and parts, laid together.
-/
import Derived.Test.YtdngljdbgepaiaaGreatDoorLChunk2
set_option linter.unusedSimpArgs false
set_option linter.unusedVariables false
set_option maxRecDepth 200000
set_option maxHeartbeats 4000000
namespace Go.Proofs.YtdngljdbgepaiaaGreatDoor
open Go.Ev

mutual
def T.fill : T → List T → T × List T
  | .mk k a b c l, ps => if k = 3 then (ps.getD 0 .no, ps.drop 1) else match l with
    | [] => (.mk k a b c [], ps)
    | t :: m => (.mk k a b [] (fillL (t :: m) ps).1, (fillL (t :: m) ps).2)
def fillL : List T → List T → List T × List T
  | [], ps => ([], ps)
  | t :: l, ps => ((t.fill ps).1 :: (fillL l (t.fill ps).2).1, (fillL l (t.fill ps).2).2)
end
theorem fill_3 {t : T} (h : t.kind = 3) (ps : List T) : t.fill ps = (ps.getD 0 .no, ps.drop 1) := by
  cases t with
  | mk k a b c l =>
    simp only [T.kind] at h
    cases l <;> simp only [T.fill, if_pos h]
theorem fill_nil {t : T} (h : ¬ t.kind = 3) (hk : t.kids = []) (ps : List T) : t.fill ps = (t, ps) := by
  cases t with
  | mk k a b c l =>
    simp only [T.kind] at h
    simp only [T.kids] at hk
    subst hk
    simp only [T.fill, if_neg h]
theorem fill_two {t l r : T} (h : ¬ t.kind = 3) (hk : t.kids = [l, r]) (ps : List T) : t.fill ps = (.mk t.kind t.key t.value [] [(l.fill ps).1, (r.fill (l.fill ps).2).1], (r.fill (l.fill ps).2).2) := by
  cases t with
  | mk k a b c m =>
    simp only [T.kind] at h
    simp only [T.kids] at hk
    subst hk
    simp only [T.fill, if_neg h, fillL, T.kind, T.key, T.value]
theorem cuts_two {t l r : T} (h : ¬ t.kind = 3) (hk : t.kids = [l, r]) : t.cuts = l.cuts ++ r.cuts := by
  rw [cuts_eq, if_neg h, hk, cutsL_cons, cutsL_cons, cutsL_nil, List.append_nil]
theorem cuts_3 {t : T} (h : t.kind = 3) : t.cuts = [t] := by rw [cuts_eq, if_pos h]
theorem cuts_nil {t : T} (h : ¬ t.kind = 3) (hk : t.kids = []) : t.cuts = [] := by rw [cuts_eq, if_neg h, hk, cutsL_nil]
theorem fill_rest : ∀ t : T, t.formed = true → ∀ ps : List T, t.cuts.length ≤ ps.length → (t.fill ps).2 = ps.drop t.cuts.length := F_ind
  (fun t hf h ps hp => by
    by_cases h3 : t.kind = 3
    · rw [fill_3 h3, cuts_3 h3]; rfl
    · rw [fill_nil h3 h, cuts_nil h3 h]; rfl)
  fun t l r hf h hl hr il ir ps hp => by
    have h3 : ¬ t.kind = 3 := by rcases kind_two hf h with hk | hk <;> omega
    rw [cuts_two h3 h, List.length_append] at hp ⊢
    rw [fill_two h3 h]
    simp only
    rw [il ps (by omega), ir _ (by rw [List.length_drop]; omega), List.drop_drop]
abbrev oP (ps : List T) : Ev.Obj := .var [.sl true (eT ps)]
abbrev oJ : Ev.Obj := .var [.clos n_chunk_Join_1 [.ptr 0 0, .ptr 1 0]]
theorem lt_join1 : (n_chunk_Join_1 < 1000000) = True := eq_true (by decide)
theorem join1_ev : ∀ t : T, t.formed = true → ∀ ps : List T, t.cuts.length ≤ ps.length → t.size ≤ 1048576 → ps.length ≤ 1048576 → Ev tab G0 n_chunk_Join_1 [avT t, .ptr 0 0, .ptr 1 0] [oP ps, oJ] = some ([avT (t.fill ps).1], [oP (t.fill ps).2, oJ]) := F_ind
  (fun t hf h ps hp hs hb => by
    have ea : avT t = .agg [i64 t.kind, .sl true (eB t.key), .sl true (eB t.value), .sl true (eB t.digest), .sl true (eT [])] := by rw [← h]
    by_cases h3 : t.kind = 3
    · rw [cuts_3 h3] at hp
      simp only [List.length_cons, List.length_nil] at hp
      rw [fill_3 h3, ea, h3]
      simp only
      generalize hq : ps.getD 0 .no = q at *
      have e1 : (1 : Int).toNat = 1 := rfl
      have e0 : (0 : Int).toNat = 0 := rfl
      have et : (eT ps).take ps.length = eT ps := List.take_of_length_le (by rw [eT_len]; omega)
      refine Ev_run t_chunk_Join_1 rfl rfl ?_
      simp (maxSteps := 1000000) (disch := first | omega | (simp only [lens, List.length_map]; omega)) only [go_sem, ↓reduceIte, Nat.reduceSub, Nat.reduceAdd, Nat.reduceMul, Nat.reduceLeDiff, Nat.reduceLT, Nat.reduceEqDiff, Nat.reduceBEq, Int.reduceLE, Int.reduceLT, Int.reduceEq, Int.reduceNeg, Int.reduceAdd, Int.reduceSub, Int.reduceMul, Int.reduceToNat, i_chunk_Join_1, hq, e1, e0, et, eT_drop]
    · rw [fill_nil h3 h, ea]
      refine Ev_run t_chunk_Join_1 rfl rfl ?_
      simp (maxSteps := 1000000) (disch := first | omega | (simp only [lens, List.length_map]; omega)) only [go_sem, ↓reduceIte, Nat.reduceSub, Nat.reduceAdd, Nat.reduceMul, Nat.reduceLeDiff, Nat.reduceLT, Nat.reduceEqDiff, Nat.reduceBEq, Int.reduceLE, Int.reduceLT, Int.reduceEq, Int.reduceNeg, Int.reduceAdd, Int.reduceSub, Int.reduceMul, Int.reduceToNat, i_chunk_Join_1, h3])
  fun t l r hf h hl hr il ir ps hp hs hb => by
    have hz := size_two h
    have h3 : ¬ t.kind = 3 := by rcases kind_two hf h with hk | hk <;> omega
    rw [cuts_two h3 h, List.length_append] at hp
    have h1 := il ps (by omega) (by omega) hb
    have hr1 := fill_rest l hl ps (by omega)
    have h2 := ir (l.fill ps).2 (by rw [hr1, List.length_drop]; omega) (by omega) (by rw [hr1, List.length_drop]; omega)
    have ea : avT t = .agg [i64 t.kind, .sl true (eB t.key), .sl true (eB t.value), .sl true (eB t.digest), .sl true (eT [l, r])] := by rw [← h]
    rw [fill_two h3 h, ea]
    generalize (r.fill (l.fill ps).2) = q2 at *
    generalize (l.fill ps) = q1 at *
    obtain ⟨u1, p1⟩ := q1
    obtain ⟨u2, p2⟩ := q2
    simp only [avT_2, eT_2, eB_n0] at *
    refine Ev_run t_chunk_Join_1 rfl rfl ?_
    simp (maxSteps := 1000000) (disch := first | omega | (simp only [lens, List.length_map]; omega)) only [go_sem, ↓reduceIte, Nat.reduceSub, Nat.reduceAdd, Nat.reduceMul, Nat.reduceLeDiff, Nat.reduceLT, Nat.reduceEqDiff, Nat.reduceBEq, Int.reduceLE, Int.reduceLT, Int.reduceEq, Int.reduceNeg, Int.reduceAdd, Int.reduceSub, Int.reduceMul, Int.reduceToNat, i_chunk_Join_1, h3, h1, h2, lt_join1]
mutual
def T.drk : T → Bool
  | .mk k _ _ _ l => decide (k = 2) || drkL l
def drkL : List T → Bool
  | [] => false
  | t :: l => t.drk || drkL l
end
theorem drk_eq (t : T) : t.drk = (decide (t.kind = 2) || drkL t.kids) := by cases t; simp only [T.drk]; rfl
theorem drkL_any (l : List T) : drkL l = l.any T.drk := by
  induction l with
  | nil => simp only [drkL, List.any_nil]
  | cons t l ih => simp only [drkL, List.any_cons, ih]
theorem chunk_dark_ev : ∀ t : T, t.size ≤ 1048576 → Ev tab G0 n_chunk_dark [avT t] [] = some ([bo t.drk], []) := T_ind fun t ih hs => by
  have hl := kids_len t
  have hf : (n_chunk_dark < 1000000) = True := by decide
  have hc := ContainsA n_chunk_dark hf (fun l => rfl) T.drk t.kids (by omega) (fun k hk => ih k hk (by have := size_kid hk; omega))
  rw [drk_eq, drkL_any]
  generalize t.kids.any T.drk = q at *
  refine Ev_run t_chunk_dark rfl rfl ?_
  by_cases h2 : t.kind = 2
  · rw [decide_eq_true h2, Bool.true_or]
    simp (maxSteps := 1000000) (disch := first | omega | (simp only [lens, List.length_map]; omega)) only [go_sem, ↓reduceIte, Nat.reduceSub, Nat.reduceAdd, Nat.reduceMul, Nat.reduceLeDiff, Nat.reduceLT, Nat.reduceEqDiff, Nat.reduceBEq, Int.reduceLE, Int.reduceLT, Int.reduceEq, Int.reduceNeg, Int.reduceAdd, Int.reduceSub, Int.reduceMul, Int.reduceToNat, i_chunk_dark, h2]
  · rw [decide_eq_false h2, Bool.false_or]
    simp (maxSteps := 1000000) (disch := first | omega | (simp only [lens, List.length_map]; omega)) only [go_sem, ↓reduceIte, Nat.reduceSub, Nat.reduceAdd, Nat.reduceMul, Nat.reduceLeDiff, Nat.reduceLT, Nat.reduceEqDiff, Nat.reduceBEq, Int.reduceLE, Int.reduceLT, Int.reduceEq, Int.reduceNeg, Int.reduceAdd, Int.reduceSub, Int.reduceMul, Int.reduceToNat, i_chunk_dark, h2, hc]
/-- The first part that does not fit: what is amiss, and where. -/
def jn (w : Int) (h : T) : List T → Nat → Option (Int × Nat)
  | [], _ => none
  | p :: r, i => if fitC w h i p = 0 then jn w h r (i + 1) else some (fitC w h i p, i)
abbrev oN : Ev.Obj := .var [i64 0, .nilsl, .nilsl, .nilsl, .nilsl]
theorem join_loop (w : Int) (hw : 1 ≤ w ∧ w ≤ 32) (h : T) (hh : h.size ≤ 1048576) (ps : List T) (hb : ps.length ≤ 1048576) (hp : ∀ p ∈ ps, p.size ≤ 1048576) : ∀ (n i : Nat), n + i = ps.length → L_chunk_Join_0 (s_chunk_Join_K0 (i64 w) (.ptr 0 0) (.ptr 1 0) (.ptr 2 0) (.sl true (eT ps)) (i64 ps.length) (i64 i) [some (oT h), some (oP ps), some oN, none, none, none, none]) = match jn w h (ps.drop i) i with
    | none => some (.exit 0, s_chunk_Join_J0 (.ptr 0 0) (.ptr 1 0) (.ptr 2 0) [some (oT h), some (oP ps), some oN, none, none, none, none])
    | some (c, j) => if c = 6 then some (.ret, s_chunk_Join_R (.ptr 2 0) (.ifc ty_api_Spot (.ptr 4 0)) [none, none, some oN, none, some (.var [i64 j, errA 6]), none, none]) else some (.ret, s_chunk_Join_R (.ptr 2 0) (errA c) [none, none, some oN, none, none, none, none])
  | 0, i, hn => by
    rw [List.drop_of_length_le (by omega), jn, L_chunk_Join_0_eq]
    simp (maxSteps := 1000000) (disch := first | omega | (simp only [lens, List.length_map]; omega)) only [go_sem, ↓reduceIte, Nat.reduceSub, Nat.reduceAdd, Nat.reduceMul, Nat.reduceLeDiff, Nat.reduceLT, Nat.reduceEqDiff, Nat.reduceBEq, Int.reduceLE, Int.reduceLT, Int.reduceEq, Int.reduceNeg, Int.reduceAdd, Int.reduceSub, Int.reduceMul, Int.reduceToNat, i_chunk_Join_b0]
  | n + 1, i, hn => by
    have ih := join_loop w hw h hh ps hb hp n (i + 1) (by omega)
    have h1 := chunk_Fits_ev w h i (ps.getD i .no) (by omega) (by omega) hh (hp _ (getD_mem' (by omega)))
    rw [drop_step (d := .no) (by omega), jn, L_chunk_Join_0_eq]
    generalize hd : ps.getD i .no = p at *
    generalize fitC w h i p = c at *
    try simp (maxSteps := 1000000) (disch := first | omega | (simp only [lens, List.length_map]; omega)) only [go_sem, ↓reduceIte, Nat.reduceSub, Nat.reduceAdd, Nat.reduceMul, Nat.reduceLeDiff, Nat.reduceLT, Nat.reduceEqDiff, Nat.reduceBEq, Int.reduceLE, Int.reduceLT, Int.reduceEq, Int.reduceNeg, Int.reduceAdd, Int.reduceSub, Int.reduceMul, Int.reduceToNat] at ih
    by_cases hc : c = 0
    · rw [if_pos hc]
      rw [hc, errV, if_pos rfl] at h1
      simp (maxSteps := 1000000) (disch := first | omega | (simp only [lens, List.length_map]; omega)) only [go_sem, ↓reduceIte, Nat.reduceSub, Nat.reduceAdd, Nat.reduceMul, Nat.reduceLeDiff, Nat.reduceLT, Nat.reduceEqDiff, Nat.reduceBEq, Int.reduceLE, Int.reduceLT, Int.reduceEq, Int.reduceNeg, Int.reduceAdd, Int.reduceSub, Int.reduceMul, Int.reduceToNat, i_chunk_Join_b0, hd, h1, ih]
    · rw [if_neg hc]
      rw [errV, if_neg hc] at h1
      simp only
      by_cases h6 : c = 6
      · subst h6
        rw [if_pos rfl]
        simp (maxSteps := 1000000) (disch := first | omega | (simp only [lens, List.length_map]; omega)) only [go_sem, ↓reduceIte, Nat.reduceSub, Nat.reduceAdd, Nat.reduceMul, Nat.reduceLeDiff, Nat.reduceLT, Nat.reduceEqDiff, Nat.reduceBEq, Int.reduceLE, Int.reduceLT, Int.reduceEq, Int.reduceNeg, Int.reduceAdd, Int.reduceSub, Int.reduceMul, Int.reduceToNat, i_chunk_Join_b0, hd, h1]
      · rw [if_neg h6]
        simp (maxSteps := 1000000) (disch := first | omega | (simp only [lens, List.length_map]; omega)) only [go_sem, ↓reduceIte, Nat.reduceSub, Nat.reduceAdd, Nat.reduceMul, Nat.reduceLeDiff, Nat.reduceLT, Nat.reduceEqDiff, Nat.reduceBEq, Int.reduceLE, Int.reduceLT, Int.reduceEq, Int.reduceNeg, Int.reduceAdd, Int.reduceSub, Int.reduceMul, Int.reduceToNat, i_chunk_Join_b0, hd, h1, h6]

end Go.Proofs.YtdngljdbgepaiaaGreatDoor
