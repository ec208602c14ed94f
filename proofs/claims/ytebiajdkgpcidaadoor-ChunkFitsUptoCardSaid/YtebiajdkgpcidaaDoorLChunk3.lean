/-
  The document's heads and parts.
-/
import Derived.Test.YtebiajdkgpcidaaDoorLChunk2
set_option linter.unusedSimpArgs false
set_option linter.unusedVariables false
set_option maxRecDepth 200000
set_option maxHeartbeats 4000000
namespace Go.Proofs.YtebiajdkgpcidaaDoor
open Go.Ev

theorem full_two {t l r : T} (h : t.kids = [l, r]) (hf : t.full = true) : t.kind ≤ 1 ∧ l.full = true ∧ r.full = true := by
  rw [full_eq, h] at hf
  split at hf
  · cases hf
  · simp only [fullL, Bool.and_true, Bool.and_eq_true] at hf
    exact ⟨by omega, hf.1, hf.2⟩
theorem part_szs : ∀ t : T, t.formed = true → ∀ n, ∀ k ∈ partT n t, k.size ≤ t.size := F_ind
  (fun t hf h n k hk => by rw [partT_nil h] at hk; simp at hk)
  fun t l r hf h hl hr il ir n k hk => by
    have hz := size_two h
    cases n with
    | zero =>
      rw [partT_0 h] at hk
      rcases List.mem_cons.1 hk with rfl | hk
      · exact Nat.le_refl _
      · simp at hk
    | succ n =>
      rw [partT_s h] at hk
      rcases List.mem_append.1 hk with hk | hk
      · have := il n k hk; omega
      · have := ir n k hk; omega
theorem head_small (w : Int) (hw : 1 ≤ w ∧ w ≤ 32) : ∀ t : T, t.formed = true → t.full = true → ∀ (n : Nat) (d : List UInt8) (left b : Int), t.dig w = some d → 0 ≤ left → 0 ≤ t.light left b → ((headT w n t).size : Int) ≤ 1200 * (left - t.light left b) := F_ind
  (fun t hf h hfl n d left b hd hl hp => by
    have ho := okT_of hf
    unfold okT at ho
    rw [full_eq, h] at hfl
    have hz := size_eq t
    rw [h] at hz
    simp only [sizeL] at hz
    rw [headT_nil h]
    rw [light_eq, h] at hp ⊢
    split at hp
    · omega
    · rename_i hc
      rw [if_neg hc]
      simp only [lightL]
      split at hfl
      · cases hfl
      · omega)
  fun t l r hf h hfl hfr il ir hfu n d left b hd hl hp => by
    have hdl := dig_len w hw t hf d hd
    have ho := okT_of hf
    unfold okT at ho
    obtain ⟨f0, f1, f2⟩ := full_two h hfu
    have hlL := light_le l (left - 1) (b - 1)
    obtain ⟨⟨x, ex⟩, y, ey⟩ := dig_kids hw hf h hd
    rw [light_eq, h] at hp ⊢
    split at hp
    · omega
    · rename_i hc
      rw [if_neg hc]
      simp only [lightL] at hp ⊢
      split at hp
      · omega
      · rename_i hq
        rw [if_neg hq]
        split at hp
        · omega
        · rename_i hr
          rw [if_neg hr]
          have hlR := light_le r (l.light (left - 1) (b - 1)) (b - 1)
          cases n with
          | zero =>
            rw [headT_0 h, hd]
            simp only [dgV, T.size, sizeL, List.length_nil]
            omega
          | succ n =>
            have i1 := il f1 n x (left - 1) (b - 1) ex (by omega) (by omega)
            have i2 := ir f2 n y (l.light (left - 1) (b - 1)) (b - 1) ey (by omega) (by omega)
            rw [headT_s h]
            simp only [T.size, sizeL, List.length_nil]
            omega
theorem rCut_ev (w : Int) (hw : 1 ≤ w ∧ w ≤ 32) : ∀ t : T, t.formed = true → t.full = true → t.size ≤ 1048576 → ∀ (n : Nat) (d : List UInt8), n ≤ 64 → t.dig w = some d → Ev tab G0 n_ref11_Cut [avTb tabK V1, i64 w, avT t, i64 n] [] = some ([avT (headT w n t), .sl true (eT (partT n t))], []) := F_ind
  (fun t hf h hfl hs n d hn hd => by
    have hk : t.kind = 0 := by
      rw [full_eq] at hfl
      split at hfl
      · cases hfl
      · rcases kind_nil hf h with hk | hk <;> omega
    have ea : avT t = .agg [i64 0, .sl true (eB t.key), .sl true (eB t.value), .sl true (eB t.digest), .sl true (eT t.kids)] := by rw [← hk]
    rw [headT_nil h, partT_nil h, ea, eT_nil]
    refine Ev_run t_ref11_Cut rfl rfl ?_
    simp (maxSteps := 1000000) (disch := first | omega | (simp only [List.length_cons, List.length_nil, List.length_append, List.length_map, List.length_take, List.length_drop]; omega)) only [go_sem, ↓reduceIte, Nat.reduceSub, Nat.reduceAdd, Nat.reduceMul, Nat.reduceLeDiff, Nat.reduceLT, Nat.reduceEqDiff, Nat.reduceBEq, Int.reduceLE, Int.reduceLT, Int.reduceEq, Int.reduceNeg, Int.reduceAdd, Int.reduceSub, Int.reduceMul, Int.reduceToNat, i_ref11_Cut])
  fun t l r hf h hl hr il ir hfl hs n d hn hd => by
    have hz := size_two h
    obtain ⟨f0, f1, f2⟩ := full_two h hfl
    have hk : t.kind = 1 := by
      rcases kind_two hf h with hk | hk
      · exact hk
      · omega
    have ea : avT t = .agg [i64 1, .sl true (eB t.key), .sl true (eB t.value), .sl true (eB t.digest), .sl true (eT [l, r])] := by rw [← hk, ← h]
    cases n with
    | zero =>
      have h1 := rdig_ev w hw t hf hs
      rw [rgV_some hd, hd] at h1
      simp only [Option.isSome] at h1
      rw [ea] at h1
      try simp (maxSteps := 1000000) (disch := first | omega | (simp only [List.length_cons, List.length_nil, List.length_append, List.length_map, List.length_take, List.length_drop]; omega)) only [go_sem, ↓reduceIte, Nat.reduceSub, Nat.reduceAdd, Nat.reduceMul, Nat.reduceLeDiff, Nat.reduceLT, Nat.reduceEqDiff, Nat.reduceBEq, Int.reduceLE, Int.reduceLT, Int.reduceEq, Int.reduceNeg, Int.reduceAdd, Int.reduceSub, Int.reduceMul, Int.reduceToNat] at h1
      have hcell : [C.sc (.int .i64 1), .sl (eB t.key), .sl (eB t.value), .sl (eB t.digest), .sl (eT [l, r])] = t.cells := by rw [cells_eq, hk, h]
      rw [headT_0 h, partT_0 h, hd, ea]
      simp only [dgV, avT_lf, eB_n0]
      refine Ev_run t_ref11_Cut rfl rfl ?_
      simp (maxSteps := 1000000) (disch := first | omega | (simp only [List.length_cons, List.length_nil, List.length_append, List.length_map, List.length_take, List.length_drop]; omega)) only [go_sem, ↓reduceIte, Nat.reduceSub, Nat.reduceAdd, Nat.reduceMul, Nat.reduceLeDiff, Nat.reduceLT, Nat.reduceEqDiff, Nat.reduceBEq, Int.reduceLE, Int.reduceLT, Int.reduceEq, Int.reduceNeg, Int.reduceAdd, Int.reduceSub, Int.reduceMul, Int.reduceToNat, i_ref11_Cut, h1, hcell, eT_one]
    | succ n =>
      obtain ⟨⟨x, ex⟩, y, ey⟩ := dig_kids hw hf h hd
      have h1 := il f1 (by omega) n x (by omega) ex
      have h2 := ir f2 (by omega) n y (by omega) ey
      have en : (n : Int) + 1 - 1 = n := by omega
      have hn0 : ¬ ((n : Int) + 1 = 0) := by omega
      have p1 := partT_len l hl n
      have p2 := partT_len r hr n
      rw [headT_s h, partT_s h, ea, hk]
      try simp (maxSteps := 1000000) (disch := first | omega | (simp only [List.length_cons, List.length_nil, List.length_append, List.length_map, List.length_take, List.length_drop]; omega)) only [go_sem, ↓reduceIte, Nat.reduceSub, Nat.reduceAdd, Nat.reduceMul, Nat.reduceLeDiff, Nat.reduceLT, Nat.reduceEqDiff, Nat.reduceBEq, Int.reduceLE, Int.reduceLT, Int.reduceEq, Int.reduceNeg, Int.reduceAdd, Int.reduceSub, Int.reduceMul, Int.reduceToNat] at h1
      try simp (maxSteps := 1000000) (disch := first | omega | (simp only [List.length_cons, List.length_nil, List.length_append, List.length_map, List.length_take, List.length_drop]; omega)) only [go_sem, ↓reduceIte, Nat.reduceSub, Nat.reduceAdd, Nat.reduceMul, Nat.reduceLeDiff, Nat.reduceLT, Nat.reduceEqDiff, Nat.reduceBEq, Int.reduceLE, Int.reduceLT, Int.reduceEq, Int.reduceNeg, Int.reduceAdd, Int.reduceSub, Int.reduceMul, Int.reduceToNat] at h2
      generalize headT w n l = u1 at *
      generalize headT w n r = u2 at *
      generalize partT n l = m1 at *
      generalize partT n r = m2 at *
      simp only [avT_2, eT_2, eB_n0]
      refine Ev_run t_ref11_Cut rfl rfl ?_
      by_cases e1 : m1 = []
      · subst e1
        rw [eT_nil] at h1
        rw [List.nil_append]
        by_cases e2 : m2 = []
        · subst e2
          rw [eT_nil] at h2 ⊢
          simp (maxSteps := 1000000) (disch := first | omega | (simp only [List.length_cons, List.length_nil, List.length_append, List.length_map, List.length_take, List.length_drop]; omega)) only [go_sem, ↓reduceIte, Nat.reduceSub, Nat.reduceAdd, Nat.reduceMul, Nat.reduceLeDiff, Nat.reduceLT, Nat.reduceEqDiff, Nat.reduceBEq, Int.reduceLE, Int.reduceLT, Int.reduceEq, Int.reduceNeg, Int.reduceAdd, Int.reduceSub, Int.reduceMul, Int.reduceToNat, i_ref11_Cut, h1, h2, en, hn0]
        · have b2 := eT_emp2 e2
          simp (maxSteps := 1000000) (disch := first | omega | (simp only [List.length_cons, List.length_nil, List.length_append, List.length_map, List.length_take, List.length_drop]; omega)) only [go_sem, ↓reduceIte, Nat.reduceSub, Nat.reduceAdd, Nat.reduceMul, Nat.reduceLeDiff, Nat.reduceLT, Nat.reduceEqDiff, Nat.reduceBEq, Int.reduceLE, Int.reduceLT, Int.reduceEq, Int.reduceNeg, Int.reduceAdd, Int.reduceSub, Int.reduceMul, Int.reduceToNat, i_ref11_Cut, h1, h2, en, hn0, b2]
      · have b1 := eT_emp2 e1
        by_cases e2 : m2 = []
        · subst e2
          rw [eT_nil] at h2
          rw [List.append_nil]
          simp (maxSteps := 1000000) (disch := first | omega | (simp only [List.length_cons, List.length_nil, List.length_append, List.length_map, List.length_take, List.length_drop]; omega)) only [go_sem, ↓reduceIte, Nat.reduceSub, Nat.reduceAdd, Nat.reduceMul, Nat.reduceLeDiff, Nat.reduceLT, Nat.reduceEqDiff, Nat.reduceBEq, Int.reduceLE, Int.reduceLT, Int.reduceEq, Int.reduceNeg, Int.reduceAdd, Int.reduceSub, Int.reduceMul, Int.reduceToNat, i_ref11_Cut, h1, h2, en, hn0, b1, List.append_nil]
        · have b2 := eT_emp2 e2
          simp (maxSteps := 1000000) (disch := first | omega | (simp only [List.length_cons, List.length_nil, List.length_append, List.length_map, List.length_take, List.length_drop]; omega)) only [go_sem, ↓reduceIte, Nat.reduceSub, Nat.reduceAdd, Nat.reduceMul, Nat.reduceLeDiff, Nat.reduceLT, Nat.reduceEqDiff, Nat.reduceBEq, Int.reduceLE, Int.reduceLT, Int.reduceEq, Int.reduceNeg, Int.reduceAdd, Int.reduceSub, Int.reduceMul, Int.reduceToNat, i_ref11_Cut, h1, h2, en, hn0, b1, b2, eT_app]
/-- Rows of slices of bytes. -/
theorem eBs_nil : eBs [] = [] := rfl
theorem eBs_app {a b : List (List UInt8)} : eBs a ++ eBs b = eBs (a ++ b) := by simp [eBs]
theorem eBs_one {a : List UInt8} : [[C.sl (eB a)]] = eBs [a] := rfl
theorem eBs_emp {l : List (List UInt8)} (h : l ≠ []) : (eBs l).isEmpty = false := by cases l with | nil => exact absurd rfl h | cons b l => simp [eBs]
def rsA : List (List UInt8) → AV
  | [] => .nilsl
  | _ :: l => .row 1 (l.length + 1)
def rsO : List (List UInt8) → Option Ev.Obj
  | [] => none
  | t :: l => some (.row ty_sl_uint8 1 true false (eBs (t :: l)))
theorem rsA_nil : rsA [] = .nilsl := rfl
theorem rsO_nil : rsO [] = none := rfl
theorem rsA_ne {l : List (List UInt8)} (h : l ≠ []) : rsA l = .row 1 l.length := by cases l with | nil => exact absurd rfl h | cons b l => rfl
theorem rsO_ne {l : List (List UInt8)} (h : l ≠ []) : rsO l = some (.row ty_sl_uint8 1 true false (eBs l)) := by cases l with | nil => exact absurd rfl h | cons b l => rfl
def digs (l : List T) : List (List UInt8) := l.map T.digest
theorem digs_app (a b : List T) : digs (a ++ b) = digs a ++ digs b := by simp [digs]
theorem digs_len (a : List T) : (digs a).length = a.length := by simp [digs]
theorem rcuts_loop (t : T) (hs : t.size ≤ 1048576) (hk : ∀ k ∈ t.kids, Ev tab G0 n_ref11_Cuts [avT k] [] = some ([.sl true (eBs (digs k.cuts))], [])) : ∀ (n i : Nat) (acc : List (List UInt8)), n + i = t.kids.length → acc.length + (cutsL (t.kids.drop i)).length ≤ 1048576 → L_ref11_Cuts_0 (s_ref11_Cuts_K0 (.ptr 0 0) (rsA acc) (i64 i) [some (oT t), rsO acc]) = some (.exit 0, s_ref11_Cuts_J0 (rsA (acc ++ digs (cutsL (t.kids.drop i)))) [none, rsO (acc ++ digs (cutsL (t.kids.drop i)))])
  | 0, i, acc, h, hb => by
    have hl := kids_len t
    rw [List.drop_of_length_le (by omega), L_ref11_Cuts_0_eq, cutsL_nil, digs, List.map_nil, List.append_nil]
    by_cases ha : acc = []
    · subst ha
      rw [rsA_nil, rsO_nil]
      simp (maxSteps := 1000000) (disch := first | omega | (simp only [List.length_cons, List.length_nil, List.length_append, List.length_map, List.length_take, List.length_drop]; omega)) only [go_sem, ↓reduceIte, Nat.reduceSub, Nat.reduceAdd, Nat.reduceMul, Nat.reduceLeDiff, Nat.reduceLT, Nat.reduceEqDiff, Nat.reduceBEq, Int.reduceLE, Int.reduceLT, Int.reduceEq, Int.reduceNeg, Int.reduceAdd, Int.reduceSub, Int.reduceMul, Int.reduceToNat, i_ref11_Cuts_b0]
    · rw [rsA_ne ha, rsO_ne ha]
      simp (maxSteps := 1000000) (disch := first | omega | (simp only [List.length_cons, List.length_nil, List.length_append, List.length_map, List.length_take, List.length_drop]; omega)) only [go_sem, ↓reduceIte, Nat.reduceSub, Nat.reduceAdd, Nat.reduceMul, Nat.reduceLeDiff, Nat.reduceLT, Nat.reduceEqDiff, Nat.reduceBEq, Int.reduceLE, Int.reduceLT, Int.reduceEq, Int.reduceNeg, Int.reduceAdd, Int.reduceSub, Int.reduceMul, Int.reduceToNat, i_ref11_Cuts_b0]
  | n + 1, i, acc, h, hb => by
    have hl := kids_len t
    rw [drop_step (d := .no) (by omega), cutsL_cons] at hb ⊢
    rw [List.length_append] at hb
    have ih := rcuts_loop t hs hk n (i + 1) (acc ++ digs (t.kids.getD i .no).cuts) (by omega) (by rw [List.length_append, digs_len]; omega)
    have h1 := hk _ (getD_mem' (d := .no) (i := i) (by omega))
    rw [L_ref11_Cuts_0_eq, digs_app, ← List.append_assoc]
    have hdl := digs_len (t.kids.getD i .no).cuts
    generalize hd : t.kids.getD i .no = k at *
    generalize digs (cutsL (t.kids.drop (i + 1))) = m at *
    by_cases hc : digs k.cuts = []
    · rw [hc] at h1 ih ⊢
      rw [List.append_nil] at ih ⊢
      rw [eBs_nil] at h1
      try simp (maxSteps := 1000000) (disch := first | omega | (simp only [List.length_cons, List.length_nil, List.length_append, List.length_map, List.length_take, List.length_drop]; omega)) only [go_sem, ↓reduceIte, Nat.reduceSub, Nat.reduceAdd, Nat.reduceMul, Nat.reduceLeDiff, Nat.reduceLT, Nat.reduceEqDiff, Nat.reduceBEq, Int.reduceLE, Int.reduceLT, Int.reduceEq, Int.reduceNeg, Int.reduceAdd, Int.reduceSub, Int.reduceMul, Int.reduceToNat] at ih
      by_cases ha : acc = []
      · subst ha
        rw [rsA_nil, rsO_nil] at ih ⊢
        simp (maxSteps := 1000000) (disch := first | omega | (simp only [List.length_cons, List.length_nil, List.length_append, List.length_map, List.length_take, List.length_drop]; omega)) only [go_sem, ↓reduceIte, Nat.reduceSub, Nat.reduceAdd, Nat.reduceMul, Nat.reduceLeDiff, Nat.reduceLT, Nat.reduceEqDiff, Nat.reduceBEq, Int.reduceLE, Int.reduceLT, Int.reduceEq, Int.reduceNeg, Int.reduceAdd, Int.reduceSub, Int.reduceMul, Int.reduceToNat, i_ref11_Cuts_b0, hd, h1, ih]
      · rw [rsA_ne ha, rsO_ne ha] at ih ⊢
        simp (maxSteps := 1000000) (disch := first | omega | (simp only [List.length_cons, List.length_nil, List.length_append, List.length_map, List.length_take, List.length_drop]; omega)) only [go_sem, ↓reduceIte, Nat.reduceSub, Nat.reduceAdd, Nat.reduceMul, Nat.reduceLeDiff, Nat.reduceLT, Nat.reduceEqDiff, Nat.reduceBEq, Int.reduceLE, Int.reduceLT, Int.reduceEq, Int.reduceNeg, Int.reduceAdd, Int.reduceSub, Int.reduceMul, Int.reduceToNat, i_ref11_Cuts_b0, hd, h1, ih, List.append_nil]
    · have he := eBs_emp hc
      have hne : acc ++ digs k.cuts ≠ [] := fun x => hc (List.append_eq_nil_iff.1 x).2
      have hla : (acc ++ digs k.cuts).length = acc.length + (digs k.cuts).length := List.length_append
      have ea := eBs_app (a := acc) (b := digs k.cuts)
      generalize digs k.cuts = kc at *
      by_cases ha : acc = []
      · subst ha
        rw [rsA_nil, rsO_nil]
        simp only [List.nil_append] at *
        rw [rsA_ne hc, rsO_ne hc] at ih
        try simp (maxSteps := 1000000) (disch := first | omega | (simp only [List.length_cons, List.length_nil, List.length_append, List.length_map, List.length_take, List.length_drop]; omega)) only [go_sem, ↓reduceIte, Nat.reduceSub, Nat.reduceAdd, Nat.reduceMul, Nat.reduceLeDiff, Nat.reduceLT, Nat.reduceEqDiff, Nat.reduceBEq, Int.reduceLE, Int.reduceLT, Int.reduceEq, Int.reduceNeg, Int.reduceAdd, Int.reduceSub, Int.reduceMul, Int.reduceToNat] at ih
        simp (maxSteps := 1000000) (disch := first | omega | (simp only [List.length_cons, List.length_nil, List.length_append, List.length_map, List.length_take, List.length_drop]; omega)) only [go_sem, ↓reduceIte, Nat.reduceSub, Nat.reduceAdd, Nat.reduceMul, Nat.reduceLeDiff, Nat.reduceLT, Nat.reduceEqDiff, Nat.reduceBEq, Int.reduceLE, Int.reduceLT, Int.reduceEq, Int.reduceNeg, Int.reduceAdd, Int.reduceSub, Int.reduceMul, Int.reduceToNat, i_ref11_Cuts_b0, hd, h1, ih, he]
      · rw [rsA_ne ha, rsO_ne ha]
        rw [rsA_ne hne, rsO_ne hne] at ih
        generalize acc ++ kc = a2 at *
        try simp (maxSteps := 1000000) (disch := first | omega | (simp only [List.length_cons, List.length_nil, List.length_append, List.length_map, List.length_take, List.length_drop]; omega)) only [go_sem, ↓reduceIte, Nat.reduceSub, Nat.reduceAdd, Nat.reduceMul, Nat.reduceLeDiff, Nat.reduceLT, Nat.reduceEqDiff, Nat.reduceBEq, Int.reduceLE, Int.reduceLT, Int.reduceEq, Int.reduceNeg, Int.reduceAdd, Int.reduceSub, Int.reduceMul, Int.reduceToNat] at ih
        simp (maxSteps := 1000000) (disch := first | omega | (simp only [List.length_cons, List.length_nil, List.length_append, List.length_map, List.length_take, List.length_drop]; omega)) only [go_sem, ↓reduceIte, Nat.reduceSub, Nat.reduceAdd, Nat.reduceMul, Nat.reduceLeDiff, Nat.reduceLT, Nat.reduceEqDiff, Nat.reduceBEq, Int.reduceLE, Int.reduceLT, Int.reduceEq, Int.reduceNeg, Int.reduceAdd, Int.reduceSub, Int.reduceMul, Int.reduceToNat, i_ref11_Cuts_b0, hd, h1, ih, he, ea]
theorem rCuts_ev : ∀ t : T, t.size ≤ 1048576 → Ev tab G0 n_ref11_Cuts [avT t] [] = some ([.sl true (eBs (digs t.cuts))], []) := T_ind fun t ih hs => by
  have hl := kids_len t
  have hsz := cuts_size t
  rw [cuts_eq] at hsz ⊢
  refine Ev_run t_ref11_Cuts rfl rfl ?_
  by_cases h3 : t.kind = 3
  · rw [if_pos h3]
    simp only [digs, List.map_cons, List.map_nil]
    simp (maxSteps := 1000000) (disch := first | omega | (simp only [List.length_cons, List.length_nil, List.length_append, List.length_map, List.length_take, List.length_drop]; omega)) only [go_sem, ↓reduceIte, Nat.reduceSub, Nat.reduceAdd, Nat.reduceMul, Nat.reduceLeDiff, Nat.reduceLT, Nat.reduceEqDiff, Nat.reduceBEq, Int.reduceLE, Int.reduceLT, Int.reduceEq, Int.reduceNeg, Int.reduceAdd, Int.reduceSub, Int.reduceMul, Int.reduceToNat, i_ref11_Cuts, h3, eBs_one]
  · rw [if_neg h3] at hsz ⊢
    have h0 := rcuts_loop t hs (fun k hk => ih k hk (by have := size_kid hk; omega)) t.kids.length 0 [] (by omega) (by simp; omega)
    have e0 : ((0 : Nat) : Int) = 0 := rfl
    rw [e0, List.drop_zero, List.nil_append, rsA_nil, rsO_nil] at h0
    generalize digs (cutsL t.kids) = m at *
    by_cases hm : m = []
    · subst hm
      rw [rsA_nil, rsO_nil] at h0
      simp (maxSteps := 1000000) (disch := first | omega | (simp only [List.length_cons, List.length_nil, List.length_append, List.length_map, List.length_take, List.length_drop]; omega)) only [go_sem, ↓reduceIte, Nat.reduceSub, Nat.reduceAdd, Nat.reduceMul, Nat.reduceLeDiff, Nat.reduceLT, Nat.reduceEqDiff, Nat.reduceBEq, Int.reduceLE, Int.reduceLT, Int.reduceEq, Int.reduceNeg, Int.reduceAdd, Int.reduceSub, Int.reduceMul, Int.reduceToNat, i_ref11_Cuts, h3, h0, eBs_nil]
    · rw [rsA_ne hm, rsO_ne hm] at h0
      simp (maxSteps := 1000000) (disch := first | omega | (simp only [List.length_cons, List.length_nil, List.length_append, List.length_map, List.length_take, List.length_drop]; omega)) only [go_sem, ↓reduceIte, Nat.reduceSub, Nat.reduceAdd, Nat.reduceMul, Nat.reduceLeDiff, Nat.reduceLT, Nat.reduceEqDiff, Nat.reduceBEq, Int.reduceLE, Int.reduceLT, Int.reduceEq, Int.reduceNeg, Int.reduceAdd, Int.reduceSub, Int.reduceMul, Int.reduceToNat, i_ref11_Cuts, h3, h0]

end Go.Proofs.YtebiajdkgpcidaaDoor
