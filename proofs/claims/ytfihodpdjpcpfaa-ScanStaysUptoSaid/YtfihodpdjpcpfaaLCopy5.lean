/-
  Lists of trees: none, some.
-/
import Derived.Test.YtfihodpdjpcpfaaLTree5
set_option linter.unusedSimpArgs false
set_option linter.unusedVariables false
set_option maxRecDepth 200000
set_option maxHeartbeats 4000000
namespace Go.Proofs.Ytfihodpdjpcpfaa
open Go.Ev

theorem eT_emp2 {l : List T} (h : l ≠ []) : (eT l).isEmpty = false := by cases l with | nil => exact absurd rfl h | cons b l => simp [eT]
abbrev oX (t : T) (l : AV) : Ev.Obj := .var [i64 t.kind, .sl true (eB t.key), .sl true (eB t.value), .sl true (eB t.digest), l]
abbrev oN0 : Ev.Obj := .var [i64 0, .nilsl, .nilsl, .nilsl, .nilsl]
def rcA : List T → AV
  | [] => .nilsl
  | _ :: l => .row 6 (l.length + 1)
def rcO : List T → Option Ev.Obj
  | [] => none
  | t :: l => some (rowT (t :: l))
theorem rcA_nil : rcA [] = .nilsl := rfl
theorem rcO_nil : rcO [] = none := rfl
theorem rcA_ne {l : List T} (h : l ≠ []) : rcA l = .row 6 l.length := by cases l with | nil => exact absurd rfl h | cons b l => rfl
theorem rcO_ne {l : List T} (h : l ≠ []) : rcO l = some (rowT l) := by cases l with | nil => exact absurd rfl h | cons b l => rfl
theorem copy_loop (t : T) (hs : t.size ≤ 1048576) (hk : ∀ k ∈ t.kids, Ev tab G0 n_ref04_Copy [avT k] [] = some ([avT k], [])) : ∀ (n i : Nat) (acc : List T), n + i = t.kids.length → acc.length = i → L_ref04_Copy_0 (s_ref04_Copy_K0 (.ptr 0 0) (.ptr 1 0) (.ptr 5 0) (i64 i) [some (oT t), some oN0, none, none, none, some (oX t (rcA acc)), rcO acc]) = some (.exit 0, s_ref04_Copy_J0 (.ptr 1 0) (.ptr 5 0) [none, some oN0, none, none, none, some (oX t (rcA (acc ++ t.kids.drop i))), rcO (acc ++ t.kids.drop i)])
  | 0, i, acc, h, ha => by
    have hl := kids_len t
    rw [List.drop_of_length_le (by omega), L_ref04_Copy_0_eq, List.append_nil]
    by_cases he : acc = []
    · subst he
      rw [rcA_nil, rcO_nil]
      simp (maxSteps := 1000000) (disch := first | omega | (simp only [List.length_cons, List.length_nil, List.length_append, List.length_map, List.length_take, List.length_drop]; omega)) only [go_sem, ↓reduceIte, Nat.reduceSub, Nat.reduceAdd, Nat.reduceMul, Nat.reduceLeDiff, Nat.reduceLT, Nat.reduceEqDiff, Nat.reduceBEq, Int.reduceLE, Int.reduceLT, Int.reduceEq, Int.reduceNeg, Int.reduceAdd, Int.reduceSub, Int.reduceMul, Int.reduceToNat, i_ref04_Copy_b0]
    · rw [rcA_ne he, rcO_ne he]
      simp (maxSteps := 1000000) (disch := first | omega | (simp only [List.length_cons, List.length_nil, List.length_append, List.length_map, List.length_take, List.length_drop]; omega)) only [go_sem, ↓reduceIte, Nat.reduceSub, Nat.reduceAdd, Nat.reduceMul, Nat.reduceLeDiff, Nat.reduceLT, Nat.reduceEqDiff, Nat.reduceBEq, Int.reduceLE, Int.reduceLT, Int.reduceEq, Int.reduceNeg, Int.reduceAdd, Int.reduceSub, Int.reduceMul, Int.reduceToNat, i_ref04_Copy_b0]
  | n + 1, i, acc, h, ha => by
    have hl := kids_len t
    rw [drop_step (d := .no) (by omega)]
    have ih := copy_loop t hs hk n (i + 1) (acc ++ [t.kids.getD i .no]) (by omega) (by simp; omega)
    have h1 := hk _ (getD_mem' (d := .no) (i := i) (by omega))
    rw [L_ref04_Copy_0_eq]
    have eap : acc ++ t.kids.getD i .no :: t.kids.drop (i + 1) = acc ++ [t.kids.getD i .no] ++ t.kids.drop (i + 1) := by simp
    rw [eap]
    generalize hd : t.kids.getD i .no = k at *
    have hne : acc ++ [k] ≠ [] := by simp
    have hla : (acc ++ [k]).length = acc.length + 1 := by simp
    have ea := eT_app (a := acc) (b := [k])
    have hcell : [C.sc (.int .i64 k.kind), .sl (eB k.key), .sl (eB k.value), .sl (eB k.digest), .sl (eT k.kids)] = k.cells := by rw [cells_eq]
    by_cases he : acc = []
    · subst he
      rw [rcA_nil, rcO_nil]
      simp only [List.nil_append] at *
      rw [rcA_ne hne, rcO_ne hne] at ih
      try simp (maxSteps := 1000000) (disch := first | omega | (simp only [List.length_cons, List.length_nil, List.length_append, List.length_map, List.length_take, List.length_drop]; omega)) only [go_sem, ↓reduceIte, Nat.reduceSub, Nat.reduceAdd, Nat.reduceMul, Nat.reduceLeDiff, Nat.reduceLT, Nat.reduceEqDiff, Nat.reduceBEq, Int.reduceLE, Int.reduceLT, Int.reduceEq, Int.reduceNeg, Int.reduceAdd, Int.reduceSub, Int.reduceMul, Int.reduceToNat] at ih
      simp (maxSteps := 1000000) (disch := first | omega | (simp only [List.length_cons, List.length_nil, List.length_append, List.length_map, List.length_take, List.length_drop]; omega)) only [go_sem, ↓reduceIte, Nat.reduceSub, Nat.reduceAdd, Nat.reduceMul, Nat.reduceLeDiff, Nat.reduceLT, Nat.reduceEqDiff, Nat.reduceBEq, Int.reduceLE, Int.reduceLT, Int.reduceEq, Int.reduceNeg, Int.reduceAdd, Int.reduceSub, Int.reduceMul, Int.reduceToNat, i_ref04_Copy_b0, hd, h1, ih, hcell, eT_one, eT_emp, List.length_cons, List.length_nil]
    · rw [rcA_ne he, rcO_ne he]
      rw [rcA_ne hne, rcO_ne hne] at ih
      generalize acc ++ [k] = a2 at *
      try simp (maxSteps := 1000000) (disch := first | omega | (simp only [List.length_cons, List.length_nil, List.length_append, List.length_map, List.length_take, List.length_drop]; omega)) only [go_sem, ↓reduceIte, Nat.reduceSub, Nat.reduceAdd, Nat.reduceMul, Nat.reduceLeDiff, Nat.reduceLT, Nat.reduceEqDiff, Nat.reduceBEq, Int.reduceLE, Int.reduceLT, Int.reduceEq, Int.reduceNeg, Int.reduceAdd, Int.reduceSub, Int.reduceMul, Int.reduceToNat] at ih
      simp (maxSteps := 1000000) (disch := first | omega | (simp only [List.length_cons, List.length_nil, List.length_append, List.length_map, List.length_take, List.length_drop]; omega)) only [go_sem, ↓reduceIte, Nat.reduceSub, Nat.reduceAdd, Nat.reduceMul, Nat.reduceLeDiff, Nat.reduceLT, Nat.reduceEqDiff, Nat.reduceBEq, Int.reduceLE, Int.reduceLT, Int.reduceEq, Int.reduceNeg, Int.reduceAdd, Int.reduceSub, Int.reduceMul, Int.reduceToNat, i_ref04_Copy_b0, hd, h1, ih, hcell, eT_one, eT_emp, ea, List.length_cons, List.length_nil]
theorem ref04_Copy_ev : ∀ t : T, t.size ≤ 1048576 → Ev tab G0 n_ref04_Copy [avT t] [] = some ([avT t], []) := T_ind fun t ih hs => by
  have hl := kids_len t
  have hz := size_eq t
  have h0 := copy_loop t hs (fun k hk => ih k hk (by have := size_kid hk; omega)) t.kids.length 0 [] (by omega) rfl
  have e0 : ((0 : Nat) : Int) = 0 := rfl
  rw [e0, List.drop_zero, List.nil_append, rcA_nil, rcO_nil] at h0
  have ea : avT t = .agg [i64 t.kind, .sl true (eB t.key), .sl true (eB t.value), .sl true (eB t.digest), .sl true (eT t.kids)] := rfl
  refine Ev_run t_ref04_Copy rfl rfl ?_
  by_cases hk : t.kids = []
  · rw [hk] at h0
    have eo : oT t = .var [i64 t.kind, .sl true (eB t.key), .sl true (eB t.value), .sl true (eB t.digest), .sl true []] := by rw [← eT_nil, ← hk]
    rw [rcA_nil, rcO_nil, eo] at h0
    rw [ea, hk, eT_nil]
    simp (maxSteps := 1000000) (disch := first | omega | (simp only [List.length_cons, List.length_nil, List.length_append, List.length_map, List.length_take, List.length_drop]; omega)) only [go_sem, ↓reduceIte, Nat.reduceSub, Nat.reduceAdd, Nat.reduceMul, Nat.reduceLeDiff, Nat.reduceLT, Nat.reduceEqDiff, Nat.reduceBEq, Int.reduceLE, Int.reduceLT, Int.reduceEq, Int.reduceNeg, Int.reduceAdd, Int.reduceSub, Int.reduceMul, Int.reduceToNat, i_ref04_Copy, h0, hk, eT_nil]
  · rw [rcA_ne hk, rcO_ne hk] at h0
    simp (maxSteps := 1000000) (disch := first | omega | (simp only [List.length_cons, List.length_nil, List.length_append, List.length_map, List.length_take, List.length_drop]; omega)) only [go_sem, ↓reduceIte, Nat.reduceSub, Nat.reduceAdd, Nat.reduceMul, Nat.reduceLeDiff, Nat.reduceLT, Nat.reduceEqDiff, Nat.reduceBEq, Int.reduceLE, Int.reduceLT, Int.reduceEq, Int.reduceNeg, Int.reduceAdd, Int.reduceSub, Int.reduceMul, Int.reduceToNat, i_ref04_Copy, h0]

end Go.Proofs.Ytfihodpdjpcpfaa
