/-
  The document's heads and parts.
-/
import Derived.Test.YtdngljdbgepaiaaGreatDoorLChunk2
set_option linter.unusedSimpArgs false
set_option linter.unusedVariables false
set_option maxRecDepth 200000
set_option maxHeartbeats 4000000
namespace Go.Proofs.YtdngljdbgepaiaaGreatDoor
open Go.Ev

/-- Rows of slices of bytes. -/
theorem eBs_nil : eBs [] = [] := rfl
theorem eBs_app {a b : List (List UInt8)} : eBs a ++ eBs b = eBs (a ++ b) := by simp [eBs]
theorem eBs_one {a : List UInt8} : [[C.sl (eB a)]] = eBs [a] := rfl
theorem eBs_emp {l : List (List UInt8)} (h : l ≠ []) : (eBs l).isEmpty = false := by cases l with | nil => exact absurd rfl h | cons b l => simp [eBs]
def rsA : List (List UInt8) → AV
  | [] => .nilsl
  | _ :: l => .row 1 (l.length + 1)
def rsO : List (List UInt8) → Option Ev.Obj
  | [] => none
  | t :: l => some (.row ty_sl_uint8 1 true false (eBs (t :: l)))
theorem rsA_nil : rsA [] = .nilsl := rfl
theorem rsO_nil : rsO [] = none := rfl
theorem rsA_ne {l : List (List UInt8)} (h : l ≠ []) : rsA l = .row 1 l.length := by cases l with | nil => exact absurd rfl h | cons b l => rfl
theorem rsO_ne {l : List (List UInt8)} (h : l ≠ []) : rsO l = some (.row ty_sl_uint8 1 true false (eBs l)) := by cases l with | nil => exact absurd rfl h | cons b l => rfl
def digs (l : List T) : List (List UInt8) := l.map T.digest
theorem digs_app (a b : List T) : digs (a ++ b) = digs a ++ digs b := by simp [digs]
theorem digs_len (a : List T) : (digs a).length = a.length := by simp [digs]
theorem rcuts_loop (t : T) (hs : t.size ≤ 1048576) (hk : ∀ k ∈ t.kids, Ev tab G0 n_ref11_Cuts [avT k] [] = some ([.sl true (eBs (digs k.cuts))], [])) : ∀ (n i : Nat) (acc : List (List UInt8)), n + i = t.kids.length → acc.length + (cutsL (t.kids.drop i)).length ≤ 1048576 → L_ref11_Cuts_0 (s_ref11_Cuts_K0 (.ptr 0 0) (rsA acc) (i64 i) [some (oT t), rsO acc]) = some (.exit 0, s_ref11_Cuts_J0 (rsA (acc ++ digs (cutsL (t.kids.drop i)))) [none, rsO (acc ++ digs (cutsL (t.kids.drop i)))])
  | 0, i, acc, h, hb => by
    have hl := kids_len t
    rw [List.drop_of_length_le (by omega), L_ref11_Cuts_0_eq, cutsL_nil, digs, List.map_nil, List.append_nil]
    by_cases ha : acc = []
    · subst ha
      rw [rsA_nil, rsO_nil]
      simp (maxSteps := 1000000) (disch := first | omega | (simp only [lens, List.length_map]; omega)) only [go_sem, ↓reduceIte, Nat.reduceSub, Nat.reduceAdd, Nat.reduceMul, Nat.reduceLeDiff, Nat.reduceLT, Nat.reduceEqDiff, Nat.reduceBEq, Int.reduceLE, Int.reduceLT, Int.reduceEq, Int.reduceNeg, Int.reduceAdd, Int.reduceSub, Int.reduceMul, Int.reduceToNat, i_ref11_Cuts_b0]
    · rw [rsA_ne ha, rsO_ne ha]
      simp (maxSteps := 1000000) (disch := first | omega | (simp only [lens, List.length_map]; omega)) only [go_sem, ↓reduceIte, Nat.reduceSub, Nat.reduceAdd, Nat.reduceMul, Nat.reduceLeDiff, Nat.reduceLT, Nat.reduceEqDiff, Nat.reduceBEq, Int.reduceLE, Int.reduceLT, Int.reduceEq, Int.reduceNeg, Int.reduceAdd, Int.reduceSub, Int.reduceMul, Int.reduceToNat, i_ref11_Cuts_b0]
  | n + 1, i, acc, h, hb => by
    have hl := kids_len t
    rw [drop_step (d := .no) (by omega), cutsL_cons] at hb ⊢
    rw [List.length_append] at hb
    have ih := rcuts_loop t hs hk n (i + 1) (acc ++ digs (t.kids.getD i .no).cuts) (by omega) (by rw [List.length_append, digs_len]; omega)
    have h1 := hk _ (getD_mem' (d := .no) (i := i) (by omega))
    rw [L_ref11_Cuts_0_eq, digs_app, ← List.append_assoc]
    have hdl := digs_len (t.kids.getD i .no).cuts
    generalize hd : t.kids.getD i .no = k at *
    generalize digs (cutsL (t.kids.drop (i + 1))) = m at *
    by_cases hc : digs k.cuts = []
    · rw [hc] at h1 ih ⊢
      rw [List.append_nil] at ih ⊢
      rw [eBs_nil] at h1
      try simp (maxSteps := 1000000) (disch := first | omega | (simp only [lens, List.length_map]; omega)) only [go_sem, ↓reduceIte, Nat.reduceSub, Nat.reduceAdd, Nat.reduceMul, Nat.reduceLeDiff, Nat.reduceLT, Nat.reduceEqDiff, Nat.reduceBEq, Int.reduceLE, Int.reduceLT, Int.reduceEq, Int.reduceNeg, Int.reduceAdd, Int.reduceSub, Int.reduceMul, Int.reduceToNat] at ih
      by_cases ha : acc = []
      · subst ha
        rw [rsA_nil, rsO_nil] at ih ⊢
        simp (maxSteps := 1000000) (disch := first | omega | (simp only [lens, List.length_map]; omega)) only [go_sem, ↓reduceIte, Nat.reduceSub, Nat.reduceAdd, Nat.reduceMul, Nat.reduceLeDiff, Nat.reduceLT, Nat.reduceEqDiff, Nat.reduceBEq, Int.reduceLE, Int.reduceLT, Int.reduceEq, Int.reduceNeg, Int.reduceAdd, Int.reduceSub, Int.reduceMul, Int.reduceToNat, i_ref11_Cuts_b0, hd, h1, ih]
      · rw [rsA_ne ha, rsO_ne ha] at ih ⊢
        simp (maxSteps := 1000000) (disch := first | omega | (simp only [lens, List.length_map]; omega)) only [go_sem, ↓reduceIte, Nat.reduceSub, Nat.reduceAdd, Nat.reduceMul, Nat.reduceLeDiff, Nat.reduceLT, Nat.reduceEqDiff, Nat.reduceBEq, Int.reduceLE, Int.reduceLT, Int.reduceEq, Int.reduceNeg, Int.reduceAdd, Int.reduceSub, Int.reduceMul, Int.reduceToNat, i_ref11_Cuts_b0, hd, h1, ih, List.append_nil]
    · have he := eBs_emp hc
      have hne : acc ++ digs k.cuts ≠ [] := fun x => hc (List.append_eq_nil_iff.1 x).2
      have hla : (acc ++ digs k.cuts).length = acc.length + (digs k.cuts).length := List.length_append
      have ea := eBs_app (a := acc) (b := digs k.cuts)
      generalize digs k.cuts = kc at *
      by_cases ha : acc = []
      · subst ha
        rw [rsA_nil, rsO_nil]
        simp only [List.nil_append] at *
        rw [rsA_ne hc, rsO_ne hc] at ih
        try simp (maxSteps := 1000000) (disch := first | omega | (simp only [lens, List.length_map]; omega)) only [go_sem, ↓reduceIte, Nat.reduceSub, Nat.reduceAdd, Nat.reduceMul, Nat.reduceLeDiff, Nat.reduceLT, Nat.reduceEqDiff, Nat.reduceBEq, Int.reduceLE, Int.reduceLT, Int.reduceEq, Int.reduceNeg, Int.reduceAdd, Int.reduceSub, Int.reduceMul, Int.reduceToNat] at ih
        simp (maxSteps := 1000000) (disch := first | omega | (simp only [lens, List.length_map]; omega)) only [go_sem, ↓reduceIte, Nat.reduceSub, Nat.reduceAdd, Nat.reduceMul, Nat.reduceLeDiff, Nat.reduceLT, Nat.reduceEqDiff, Nat.reduceBEq, Int.reduceLE, Int.reduceLT, Int.reduceEq, Int.reduceNeg, Int.reduceAdd, Int.reduceSub, Int.reduceMul, Int.reduceToNat, i_ref11_Cuts_b0, hd, h1, ih, he]
      · rw [rsA_ne ha, rsO_ne ha]
        rw [rsA_ne hne, rsO_ne hne] at ih
        generalize acc ++ kc = a2 at *
        try simp (maxSteps := 1000000) (disch := first | omega | (simp only [lens, List.length_map]; omega)) only [go_sem, ↓reduceIte, Nat.reduceSub, Nat.reduceAdd, Nat.reduceMul, Nat.reduceLeDiff, Nat.reduceLT, Nat.reduceEqDiff, Nat.reduceBEq, Int.reduceLE, Int.reduceLT, Int.reduceEq, Int.reduceNeg, Int.reduceAdd, Int.reduceSub, Int.reduceMul, Int.reduceToNat] at ih
        simp (maxSteps := 1000000) (disch := first | omega | (simp only [lens, List.length_map]; omega)) only [go_sem, ↓reduceIte, Nat.reduceSub, Nat.reduceAdd, Nat.reduceMul, Nat.reduceLeDiff, Nat.reduceLT, Nat.reduceEqDiff, Nat.reduceBEq, Int.reduceLE, Int.reduceLT, Int.reduceEq, Int.reduceNeg, Int.reduceAdd, Int.reduceSub, Int.reduceMul, Int.reduceToNat, i_ref11_Cuts_b0, hd, h1, ih, he, ea]
theorem rCuts_ev : ∀ t : T, t.size ≤ 1048576 → Ev tab G0 n_ref11_Cuts [avT t] [] = some ([.sl true (eBs (digs t.cuts))], []) := T_ind fun t ih hs => by
  have hl := kids_len t
  have hsz := cuts_size t
  rw [cuts_eq] at hsz ⊢
  refine Ev_run t_ref11_Cuts rfl rfl ?_
  by_cases h3 : t.kind = 3
  · rw [if_pos h3]
    simp only [digs, List.map_cons, List.map_nil]
    simp (maxSteps := 1000000) (disch := first | omega | (simp only [lens, List.length_map]; omega)) only [go_sem, ↓reduceIte, Nat.reduceSub, Nat.reduceAdd, Nat.reduceMul, Nat.reduceLeDiff, Nat.reduceLT, Nat.reduceEqDiff, Nat.reduceBEq, Int.reduceLE, Int.reduceLT, Int.reduceEq, Int.reduceNeg, Int.reduceAdd, Int.reduceSub, Int.reduceMul, Int.reduceToNat, i_ref11_Cuts, h3, eBs_one]
  · rw [if_neg h3] at hsz ⊢
    have h0 := rcuts_loop t hs (fun k hk => ih k hk (by have := size_kid hk; omega)) t.kids.length 0 [] (by omega) (by simp; omega)
    have e0 : ((0 : Nat) : Int) = 0 := rfl
    rw [e0, List.drop_zero, List.nil_append, rsA_nil, rsO_nil] at h0
    generalize digs (cutsL t.kids) = m at *
    by_cases hm : m = []
    · subst hm
      rw [rsA_nil, rsO_nil] at h0
      simp (maxSteps := 1000000) (disch := first | omega | (simp only [lens, List.length_map]; omega)) only [go_sem, ↓reduceIte, Nat.reduceSub, Nat.reduceAdd, Nat.reduceMul, Nat.reduceLeDiff, Nat.reduceLT, Nat.reduceEqDiff, Nat.reduceBEq, Int.reduceLE, Int.reduceLT, Int.reduceEq, Int.reduceNeg, Int.reduceAdd, Int.reduceSub, Int.reduceMul, Int.reduceToNat, i_ref11_Cuts, h3, h0, eBs_nil]
    · rw [rsA_ne hm, rsO_ne hm] at h0
      simp (maxSteps := 1000000) (disch := first | omega | (simp only [lens, List.length_map]; omega)) only [go_sem, ↓reduceIte, Nat.reduceSub, Nat.reduceAdd, Nat.reduceMul, Nat.reduceLeDiff, Nat.reduceLT, Nat.reduceEqDiff, Nat.reduceBEq, Int.reduceLE, Int.reduceLT, Int.reduceEq, Int.reduceNeg, Int.reduceAdd, Int.reduceSub, Int.reduceMul, Int.reduceToNat, i_ref11_Cuts, h3, h0]

end Go.Proofs.YtdngljdbgepaiaaGreatDoor
