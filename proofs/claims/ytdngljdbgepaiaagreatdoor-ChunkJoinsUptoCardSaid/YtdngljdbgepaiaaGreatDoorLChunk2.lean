/-
  What is missing of a tree.
-/
import Derived.Test.YtdngljdbgepaiaaGreatDoorLChunk
set_option linter.unusedSimpArgs false
set_option linter.unusedVariables false
set_option maxRecDepth 200000
set_option maxHeartbeats 4000000
namespace Go.Proofs.YtdngljdbgepaiaaGreatDoor
open Go.Ev

mutual
def T.cuts : T → List T
  | .mk k a b c l => if k = 3 then [.mk k a b c l] else cutsL l
def cutsL : List T → List T
  | [] => []
  | t :: l => t.cuts ++ cutsL l
end
theorem cuts_eq (t : T) : t.cuts = if t.kind = 3 then [t] else cutsL t.kids := by cases t; simp only [T.cuts]; rfl
theorem cutsL_nil : cutsL [] = [] := by simp only [cutsL]
theorem cutsL_cons (t : T) (l : List T) : cutsL (t :: l) = t.cuts ++ cutsL l := by simp only [cutsL]
mutual
theorem cuts_size : ∀ t : T, t.cuts.length ≤ t.size
  | .mk k a b c l => by
    have := cutsL_size l
    simp only [T.cuts, T.size]
    split
    · simp only [List.length_cons, List.length_nil]; omega
    · omega
theorem cutsL_size : ∀ l : List T, (cutsL l).length ≤ sizeL l
  | [] => by simp [cutsL, sizeL]
  | t :: l => by
    have h1 := cuts_size t
    have h2 := cutsL_size l
    simp only [cutsL, sizeL, List.length_append]
    omega
end
def rtA : List T → AV
  | [] => .nilsl
  | _ :: l => .row 2 (l.length + 1)
def rtO : List T → Option Ev.Obj
  | [] => none
  | t :: l => some (rowT (t :: l))
theorem rtA_nil : rtA [] = .nilsl := rfl
theorem rtO_nil : rtO [] = none := rfl
theorem rtA_ne {l : List T} (h : l ≠ []) : rtA l = .row 2 l.length := by cases l with | nil => exact absurd rfl h | cons b l => rfl
theorem rtO_ne {l : List T} (h : l ≠ []) : rtO l = some (rowT l) := by cases l with | nil => exact absurd rfl h | cons b l => rfl
theorem eT_emp2 {l : List T} (h : l ≠ []) : (eT l).isEmpty = false := by cases l with | nil => exact absurd rfl h | cons b l => simp [eT]
theorem cuts_loop (t : T) (hs : t.size ≤ 1048576) (hk : ∀ k ∈ t.kids, Ev tab G0 n_chunk_cuts [avT k] [] = some ([.sl true (eT k.cuts)], [])) : ∀ (n i : Nat) (acc : List T), n + i = t.kids.length → acc.length + (cutsL (t.kids.drop i)).length ≤ 1048576 → L_chunk_cuts_0 (s_chunk_cuts_K0 (rtA acc) (.sl true (eT t.kids)) (i64 t.kids.length) (i64 i) [none, none, rtO acc]) = some (.exit 0, s_chunk_cuts_J0 (rtA (acc ++ cutsL (t.kids.drop i))) [none, none, rtO (acc ++ cutsL (t.kids.drop i))])
  | 0, i, acc, h, hb => by
    have hl := kids_len t
    rw [List.drop_of_length_le (by omega), L_chunk_cuts_0_eq, cutsL_nil, List.append_nil]
    by_cases ha : acc = []
    · subst ha
      rw [rtA_nil, rtO_nil]
      simp (maxSteps := 1000000) (disch := first | omega | (simp only [lens, List.length_map]; omega)) only [go_sem, ↓reduceIte, Nat.reduceSub, Nat.reduceAdd, Nat.reduceMul, Nat.reduceLeDiff, Nat.reduceLT, Nat.reduceEqDiff, Nat.reduceBEq, Int.reduceLE, Int.reduceLT, Int.reduceEq, Int.reduceNeg, Int.reduceAdd, Int.reduceSub, Int.reduceMul, Int.reduceToNat, i_chunk_cuts_b0]
    · rw [rtA_ne ha, rtO_ne ha]
      simp (maxSteps := 1000000) (disch := first | omega | (simp only [lens, List.length_map]; omega)) only [go_sem, ↓reduceIte, Nat.reduceSub, Nat.reduceAdd, Nat.reduceMul, Nat.reduceLeDiff, Nat.reduceLT, Nat.reduceEqDiff, Nat.reduceBEq, Int.reduceLE, Int.reduceLT, Int.reduceEq, Int.reduceNeg, Int.reduceAdd, Int.reduceSub, Int.reduceMul, Int.reduceToNat, i_chunk_cuts_b0]
  | n + 1, i, acc, h, hb => by
    have hl := kids_len t
    rw [drop_step (d := .no) (by omega), cutsL_cons] at hb ⊢
    rw [List.length_append] at hb
    have ih := cuts_loop t hs hk n (i + 1) (acc ++ (t.kids.getD i .no).cuts) (by omega) (by rw [List.length_append]; omega)
    have h1 := hk _ (getD_mem' (d := .no) (i := i) (by omega))
    rw [L_chunk_cuts_0_eq, ← List.append_assoc]
    generalize hd : t.kids.getD i .no = k at *
    generalize cutsL (t.kids.drop (i + 1)) = m at *
    by_cases hc : k.cuts = []
    · rw [hc] at h1 ih hb ⊢
      rw [List.append_nil] at ih ⊢
      rw [eT_nil] at h1
      try simp (maxSteps := 1000000) (disch := first | omega | (simp only [lens, List.length_map]; omega)) only [go_sem, ↓reduceIte, Nat.reduceSub, Nat.reduceAdd, Nat.reduceMul, Nat.reduceLeDiff, Nat.reduceLT, Nat.reduceEqDiff, Nat.reduceBEq, Int.reduceLE, Int.reduceLT, Int.reduceEq, Int.reduceNeg, Int.reduceAdd, Int.reduceSub, Int.reduceMul, Int.reduceToNat] at ih
      by_cases ha : acc = []
      · subst ha
        rw [rtA_nil, rtO_nil] at ih ⊢
        simp (maxSteps := 1000000) (disch := first | omega | (simp only [lens, List.length_map]; omega)) only [go_sem, ↓reduceIte, Nat.reduceSub, Nat.reduceAdd, Nat.reduceMul, Nat.reduceLeDiff, Nat.reduceLT, Nat.reduceEqDiff, Nat.reduceBEq, Int.reduceLE, Int.reduceLT, Int.reduceEq, Int.reduceNeg, Int.reduceAdd, Int.reduceSub, Int.reduceMul, Int.reduceToNat, i_chunk_cuts_b0, hd, h1, ih, cells_no]
      · rw [rtA_ne ha, rtO_ne ha] at ih ⊢
        simp (maxSteps := 1000000) (disch := first | omega | (simp only [lens, List.length_map]; omega)) only [go_sem, ↓reduceIte, Nat.reduceSub, Nat.reduceAdd, Nat.reduceMul, Nat.reduceLeDiff, Nat.reduceLT, Nat.reduceEqDiff, Nat.reduceBEq, Int.reduceLE, Int.reduceLT, Int.reduceEq, Int.reduceNeg, Int.reduceAdd, Int.reduceSub, Int.reduceMul, Int.reduceToNat, i_chunk_cuts_b0, hd, h1, ih, cells_no, List.append_nil]
    · have he := eT_emp2 hc
      have hne : acc ++ k.cuts ≠ [] := fun x => hc (List.append_eq_nil_iff.1 x).2
      have hla : (acc ++ k.cuts).length = acc.length + k.cuts.length := List.length_append
      have ea := eT_app (a := acc) (b := k.cuts)
      generalize k.cuts = kc at *
      by_cases ha : acc = []
      · subst ha
        rw [rtA_nil, rtO_nil]
        simp only [List.nil_append] at *
        rw [rtA_ne hc, rtO_ne hc] at ih
        try simp (maxSteps := 1000000) (disch := first | omega | (simp only [lens, List.length_map]; omega)) only [go_sem, ↓reduceIte, Nat.reduceSub, Nat.reduceAdd, Nat.reduceMul, Nat.reduceLeDiff, Nat.reduceLT, Nat.reduceEqDiff, Nat.reduceBEq, Int.reduceLE, Int.reduceLT, Int.reduceEq, Int.reduceNeg, Int.reduceAdd, Int.reduceSub, Int.reduceMul, Int.reduceToNat] at ih
        simp (maxSteps := 1000000) (disch := first | omega | (simp only [lens, List.length_map]; omega)) only [go_sem, ↓reduceIte, Nat.reduceSub, Nat.reduceAdd, Nat.reduceMul, Nat.reduceLeDiff, Nat.reduceLT, Nat.reduceEqDiff, Nat.reduceBEq, Int.reduceLE, Int.reduceLT, Int.reduceEq, Int.reduceNeg, Int.reduceAdd, Int.reduceSub, Int.reduceMul, Int.reduceToNat, i_chunk_cuts_b0, hd, h1, ih, he, cells_no]
      · rw [rtA_ne ha, rtO_ne ha]
        rw [rtA_ne hne, rtO_ne hne] at ih
        generalize acc ++ kc = a2 at *

        try simp (maxSteps := 1000000) (disch := first | omega | (simp only [lens, List.length_map]; omega)) only [go_sem, ↓reduceIte, Nat.reduceSub, Nat.reduceAdd, Nat.reduceMul, Nat.reduceLeDiff, Nat.reduceLT, Nat.reduceEqDiff, Nat.reduceBEq, Int.reduceLE, Int.reduceLT, Int.reduceEq, Int.reduceNeg, Int.reduceAdd, Int.reduceSub, Int.reduceMul, Int.reduceToNat] at ih
        simp (maxSteps := 1000000) (disch := first | omega | (simp only [lens, List.length_map]; omega)) only [go_sem, ↓reduceIte, Nat.reduceSub, Nat.reduceAdd, Nat.reduceMul, Nat.reduceLeDiff, Nat.reduceLT, Nat.reduceEqDiff, Nat.reduceBEq, Int.reduceLE, Int.reduceLT, Int.reduceEq, Int.reduceNeg, Int.reduceAdd, Int.reduceSub, Int.reduceMul, Int.reduceToNat, i_chunk_cuts_b0, hd, h1, ih, he, ea, cells_no]
theorem chunk_cuts_ev : ∀ t : T, t.size ≤ 1048576 → Ev tab G0 n_chunk_cuts [avT t] [] = some ([.sl true (eT t.cuts)], []) := T_ind fun t ih hs => by
  have hl := kids_len t
  have hsz := cuts_size t
  rw [cuts_eq] at hsz ⊢
  refine Ev_run t_chunk_cuts rfl rfl ?_
  by_cases h3 : t.kind = 3
  · rw [if_pos h3]
    have hcell : [C.sc (.int .i64 3), .sl (eB t.key), .sl (eB t.value), .sl (eB t.digest), .sl (eT t.kids)] = t.cells := by rw [cells_eq, h3]
    simp (maxSteps := 1000000) (disch := first | omega | (simp only [lens, List.length_map]; omega)) only [go_sem, ↓reduceIte, Nat.reduceSub, Nat.reduceAdd, Nat.reduceMul, Nat.reduceLeDiff, Nat.reduceLT, Nat.reduceEqDiff, Nat.reduceBEq, Int.reduceLE, Int.reduceLT, Int.reduceEq, Int.reduceNeg, Int.reduceAdd, Int.reduceSub, Int.reduceMul, Int.reduceToNat, i_chunk_cuts, h3, hcell, eT_one]
  · rw [if_neg h3] at hsz ⊢
    have h0 := cuts_loop t hs (fun k hk => ih k hk (by have := size_kid hk; omega)) t.kids.length 0 [] (by omega) (by simp; omega)
    have e0 : ((0 : Nat) : Int) = 0 := rfl
    rw [e0, List.drop_zero, List.nil_append, rtA_nil, rtO_nil] at h0
    generalize cutsL t.kids = m at *
    by_cases hm : m = []
    · subst hm
      rw [rtA_nil, rtO_nil] at h0
      simp (maxSteps := 1000000) (disch := first | omega | (simp only [lens, List.length_map]; omega)) only [go_sem, ↓reduceIte, Nat.reduceSub, Nat.reduceAdd, Nat.reduceMul, Nat.reduceLeDiff, Nat.reduceLT, Nat.reduceEqDiff, Nat.reduceBEq, Int.reduceLE, Int.reduceLT, Int.reduceEq, Int.reduceNeg, Int.reduceAdd, Int.reduceSub, Int.reduceMul, Int.reduceToNat, i_chunk_cuts, h3, h0, eT_nil]
    · rw [rtA_ne hm, rtO_ne hm] at h0
      simp (maxSteps := 1000000) (disch := first | omega | (simp only [lens, List.length_map]; omega)) only [go_sem, ↓reduceIte, Nat.reduceSub, Nat.reduceAdd, Nat.reduceMul, Nat.reduceLeDiff, Nat.reduceLT, Nat.reduceEqDiff, Nat.reduceBEq, Int.reduceLE, Int.reduceLT, Int.reduceEq, Int.reduceNeg, Int.reduceAdd, Int.reduceSub, Int.reduceMul, Int.reduceToNat, i_chunk_cuts, h3, h0]
theorem Count_ev (t : T) (hs : t.size ≤ 1048576) : Ev tab G0 n_chunk_Count [avT t] [] = some ([i64 (if t.chk = 0 then (t.cuts.length : Int) else 0)], []) := by
  have h1 := tree_Check_ev t hs
  have h2 := chunk_cuts_ev t hs
  have h3 := cuts_size t
  refine Ev_run t_chunk_Count rfl rfl ?_
  by_cases hc : t.chk = 0
  · rw [if_pos hc]
    rw [hc, errV, if_pos rfl] at h1
    simp (maxSteps := 1000000) (disch := first | omega | (simp only [lens, List.length_map]; omega)) only [go_sem, ↓reduceIte, Nat.reduceSub, Nat.reduceAdd, Nat.reduceMul, Nat.reduceLeDiff, Nat.reduceLT, Nat.reduceEqDiff, Nat.reduceBEq, Int.reduceLE, Int.reduceLT, Int.reduceEq, Int.reduceNeg, Int.reduceAdd, Int.reduceSub, Int.reduceMul, Int.reduceToNat, i_chunk_Count, h1, h2]
  · rw [if_neg hc]
    rw [errV, if_neg hc] at h1
    simp (maxSteps := 1000000) (disch := first | omega | (simp only [lens, List.length_map]; omega)) only [go_sem, ↓reduceIte, Nat.reduceSub, Nat.reduceAdd, Nat.reduceMul, Nat.reduceLeDiff, Nat.reduceLT, Nat.reduceEqDiff, Nat.reduceBEq, Int.reduceLE, Int.reduceLT, Int.reduceEq, Int.reduceNeg, Int.reduceAdd, Int.reduceSub, Int.reduceMul, Int.reduceToNat, i_chunk_Count, h1]
/-- What is amiss with a part, first. -/
def fitC (w : Int) (h : T) (i : Int) (p : T) : Int :=
  if ¬ (1 ≤ w ∧ w ≤ 32) then 1 else if ¬ h.chk = 0 then h.chk else if ¬ p.chk = 0 then p.chk else
  if (p.dig w).isSome = false ∨ p.full = false ∨ p.kids = [] then 3 else if i < 0 ∨ h.cuts.length ≤ i then 9 else
  if ((h.cuts.getD i.toNat .no).digest == dgV (p.dig w)) = true then 0 else 6
theorem fitC_cases (w : Int) (h : T) (i : Int) (p : T) : fitC w h i p = 0 ∨ fitC w h i p = 1 ∨ fitC w h i p = 3 ∨ fitC w h i p = 5 ∨ fitC w h i p = 6 ∨ fitC w h i p = 9 := by
  have h1 := chk_cases h
  have h2 := chk_cases p
  unfold fitC
  (repeat' split) <;> omega
theorem bytes_Equal_ev (a b : List UInt8) (ha : a.length ≤ 1048576) (hb : b.length ≤ 1048576) : Ev tab G0 n_bytes_Equal [.sl true (eB a), .sl true (eB b)] [] = some ([bo (a == b)], []) := by
  refine Ev_run t_bytes_Equal rfl rfl ?_
  simp (maxSteps := 1000000) (disch := first | omega | (simp only [lens, List.length_map]; omega)) only [go_sem, ↓reduceIte, Nat.reduceSub, Nat.reduceAdd, Nat.reduceMul, Nat.reduceLeDiff, Nat.reduceLT, Nat.reduceEqDiff, Nat.reduceBEq, Int.reduceLE, Int.reduceLT, Int.reduceEq, Int.reduceNeg, Int.reduceAdd, Int.reduceSub, Int.reduceMul, Int.reduceToNat, i_bytes_Equal]
mutual
theorem cuts_sz : ∀ t : T, ∀ k ∈ t.cuts, k.size ≤ t.size
  | .mk k a b c l, q, hq => by
    simp only [T.cuts] at hq
    split at hq
    · rcases List.mem_cons.1 hq with rfl | hq
      · exact Nat.le_refl _
      · simp at hq
    · have := cutsL_sz l q hq
      simp only [T.size]
      omega
theorem cutsL_sz : ∀ l : List T, ∀ k ∈ cutsL l, k.size ≤ sizeL l
  | [], q, hq => by simp [cutsL] at hq
  | t :: l, q, hq => by
    simp only [cutsL] at hq
    simp only [sizeL]
    rcases List.mem_append.1 hq with hq | hq
    · have := cuts_sz t q hq
      omega
    · have := cutsL_sz l q hq
      omega
end
theorem chunk_Fits_ev (w : Int) (h : T) (i : Int) (p : T) (hw : -9223372036854775808 ≤ w ∧ w < 9223372036854775808) (hi : -9223372036854775808 ≤ i ∧ i < 9223372036854775808) (hh : h.size ≤ 1048576) (hp : p.size ≤ 1048576) : Ev tab G0 n_chunk_Fits [i64 w, avT h, i64 i, avT p] [] = some ([errV (fitC w h i p)], []) := by
  have h1 := chunk_width_ev w hw
  have h2 := tree_Check_ev h hh
  have h4 := chunk_cuts_ev h hh
  have h5 := tree_Full_ev p hp
  have hcs := cuts_size h
  unfold fitC
  refine Ev_run t_chunk_Fits rfl rfl ?_
  by_cases hg : 1 ≤ w ∧ w ≤ 32
  · rw [if_neg (fun x => x hg)]
    rw [decide_eq_true hg] at h1
    have h3 := tree_Digest_ev w hg p hp
    by_cases hc : h.chk = 0
    · rw [if_neg (fun x => x hc)]
      rw [hc, errV, if_pos rfl] at h2
      by_cases hc2 : p.chk = 0
      · rw [if_neg (fun x => x hc2)]
        rw [if_pos hc2] at h3
        rw [decide_eq_true hc2, Bool.true_and] at h5
        cases hd : p.dig w with
        | none =>
          rw [hd] at h3
          simp only [dgV, dgE] at h3
          rw [if_pos (.inl rfl), errV, if_neg (by decide)]
          simp (maxSteps := 1000000) (disch := first | omega | (simp only [lens, List.length_map]; omega)) only [go_sem, ↓reduceIte, Nat.reduceSub, Nat.reduceAdd, Nat.reduceMul, Nat.reduceLeDiff, Nat.reduceLT, Nat.reduceEqDiff, Nat.reduceBEq, Int.reduceLE, Int.reduceLT, Int.reduceEq, Int.reduceNeg, Int.reduceAdd, Int.reduceSub, Int.reduceMul, Int.reduceToNat, i_chunk_Fits, h1, h2, h3, h4]
        | some d =>
          rw [hd] at h3
          simp only [dgV, dgE] at h3
          rw [show dgV (some d) = d from rfl]
          cases hfl : p.full
          · rw [hfl] at h5
            rw [if_pos (.inr (.inl rfl)), errV, if_neg (by decide)]
            simp (maxSteps := 1000000) (disch := first | omega | (simp only [lens, List.length_map]; omega)) only [go_sem, ↓reduceIte, Nat.reduceSub, Nat.reduceAdd, Nat.reduceMul, Nat.reduceLeDiff, Nat.reduceLT, Nat.reduceEqDiff, Nat.reduceBEq, Int.reduceLE, Int.reduceLT, Int.reduceEq, Int.reduceNeg, Int.reduceAdd, Int.reduceSub, Int.reduceMul, Int.reduceToNat, i_chunk_Fits, h1, h2, h3, h4, h5]
          · rw [hfl] at h5
            have hf := chk_formed hc2
            rcases two_of hf with hk | ⟨l, r, hk, hl, hr⟩
            · rw [if_pos (.inr (.inr hk)), errV, if_neg (by decide)]
              have ea : avT p = .agg [i64 p.kind, .sl true (eB p.key), .sl true (eB p.value), .sl true (eB p.digest), .sl true (eT [])] := by rw [← hk]
              rw [ea] at h3 h5 ⊢
              simp (maxSteps := 1000000) (disch := first | omega | (simp only [lens, List.length_map]; omega)) only [go_sem, ↓reduceIte, Nat.reduceSub, Nat.reduceAdd, Nat.reduceMul, Nat.reduceLeDiff, Nat.reduceLT, Nat.reduceEqDiff, Nat.reduceBEq, Int.reduceLE, Int.reduceLT, Int.reduceEq, Int.reduceNeg, Int.reduceAdd, Int.reduceSub, Int.reduceMul, Int.reduceToNat, i_chunk_Fits, h1, h2, h3, h4, h5, hk, List.length_nil]
            · have hne : ¬ ((some d).isSome = false ∨ true = false ∨ p.kids = []) := by rw [hk]; simp
              rw [if_neg hne]
              have ea : avT p = .agg [i64 p.kind, .sl true (eB p.key), .sl true (eB p.value), .sl true (eB p.digest), .sl true (eT [l, r])] := by rw [← hk]
              rw [ea] at h3 h5 ⊢
              by_cases i0 : i < 0
              · rw [if_pos (.inl i0), errV, if_neg (by decide)]
                simp (maxSteps := 1000000) (disch := first | omega | (simp only [lens, List.length_map]; omega)) only [go_sem, ↓reduceIte, Nat.reduceSub, Nat.reduceAdd, Nat.reduceMul, Nat.reduceLeDiff, Nat.reduceLT, Nat.reduceEqDiff, Nat.reduceBEq, Int.reduceLE, Int.reduceLT, Int.reduceEq, Int.reduceNeg, Int.reduceAdd, Int.reduceSub, Int.reduceMul, Int.reduceToNat, i_chunk_Fits, h1, h2, h3, h4, h5, hk]
              · by_cases i1 : h.cuts.length ≤ i
                · rw [if_pos (.inr i1), errV, if_neg (by decide)]
                  simp (maxSteps := 1000000) (disch := first | omega | (simp only [lens, List.length_map]; omega)) only [go_sem, ↓reduceIte, Nat.reduceSub, Nat.reduceAdd, Nat.reduceMul, Nat.reduceLeDiff, Nat.reduceLT, Nat.reduceEqDiff, Nat.reduceBEq, Int.reduceLE, Int.reduceLT, Int.reduceEq, Int.reduceNeg, Int.reduceAdd, Int.reduceSub, Int.reduceMul, Int.reduceToNat, i_chunk_Fits, h1, h2, h3, h4, h5, hk]
                · rw [if_neg (by omega)]
                  have hx := cuts_sz h (h.cuts.getD i.toNat .no) (getD_mem' (by omega))
                  have hx2 := size_eq (h.cuts.getD i.toNat .no)
                  have hdl := dig_len w hg p hf d hd
                  have h6 := bytes_Equal_ev (h.cuts.getD i.toNat .no).digest d (by omega) (by omega)
                  generalize hq : h.cuts.getD i.toNat .no = q at *
                  have hc3 : q.cells.drop 3 = [.sl (eB q.digest), .sl (eT q.kids)] := by rw [cells_eq]; rfl
                  by_cases hb : (q.digest == d) = true
                  · rw [hb] at h6
                    rw [if_pos hb, errV, if_pos rfl]
                    simp (maxSteps := 1000000) (disch := first | omega | (simp only [lens, List.length_map]; omega)) only [go_sem, ↓reduceIte, Nat.reduceSub, Nat.reduceAdd, Nat.reduceMul, Nat.reduceLeDiff, Nat.reduceLT, Nat.reduceEqDiff, Nat.reduceBEq, Int.reduceLE, Int.reduceLT, Int.reduceEq, Int.reduceNeg, Int.reduceAdd, Int.reduceSub, Int.reduceMul, Int.reduceToNat, i_chunk_Fits, h1, h2, h3, h4, h5, hk, hq, h6, hc3]
                  · rw [eq_false_of_ne_true hb] at h6
                    rw [if_neg hb, errV, if_neg (by decide)]
                    simp (maxSteps := 1000000) (disch := first | omega | (simp only [lens, List.length_map]; omega)) only [go_sem, ↓reduceIte, Nat.reduceSub, Nat.reduceAdd, Nat.reduceMul, Nat.reduceLeDiff, Nat.reduceLT, Nat.reduceEqDiff, Nat.reduceBEq, Int.reduceLE, Int.reduceLT, Int.reduceEq, Int.reduceNeg, Int.reduceAdd, Int.reduceSub, Int.reduceMul, Int.reduceToNat, i_chunk_Fits, h1, h2, h3, h4, h5, hk, hq, h6, hc3]
      · rw [if_pos hc2, errV, if_neg hc2]
        rw [if_neg hc2] at h3
        generalize p.chk = c2 at *
        simp (maxSteps := 1000000) (disch := first | omega | (simp only [lens, List.length_map]; omega)) only [go_sem, ↓reduceIte, Nat.reduceSub, Nat.reduceAdd, Nat.reduceMul, Nat.reduceLeDiff, Nat.reduceLT, Nat.reduceEqDiff, Nat.reduceBEq, Int.reduceLE, Int.reduceLT, Int.reduceEq, Int.reduceNeg, Int.reduceAdd, Int.reduceSub, Int.reduceMul, Int.reduceToNat, i_chunk_Fits, h1, h2, h3, h4]
    · rw [if_pos hc, errV, if_neg hc]
      rw [errV, if_neg hc] at h2
      generalize h.chk = c at *
      simp (maxSteps := 1000000) (disch := first | omega | (simp only [lens, List.length_map]; omega)) only [go_sem, ↓reduceIte, Nat.reduceSub, Nat.reduceAdd, Nat.reduceMul, Nat.reduceLeDiff, Nat.reduceLT, Nat.reduceEqDiff, Nat.reduceBEq, Int.reduceLE, Int.reduceLT, Int.reduceEq, Int.reduceNeg, Int.reduceAdd, Int.reduceSub, Int.reduceMul, Int.reduceToNat, i_chunk_Fits, h1, h2]
  · rw [if_pos hg, errV, if_neg (by decide)]
    rw [decide_eq_false hg] at h1
    simp (maxSteps := 1000000) (disch := first | omega | (simp only [lens, List.length_map]; omega)) only [go_sem, ↓reduceIte, Nat.reduceSub, Nat.reduceAdd, Nat.reduceMul, Nat.reduceLeDiff, Nat.reduceLT, Nat.reduceEqDiff, Nat.reduceBEq, Int.reduceLE, Int.reduceLT, Int.reduceEq, Int.reduceNeg, Int.reduceAdd, Int.reduceSub, Int.reduceMul, Int.reduceToNat, i_chunk_Fits, h1]

end Go.Proofs.YtdngljdbgepaiaaGreatDoor
