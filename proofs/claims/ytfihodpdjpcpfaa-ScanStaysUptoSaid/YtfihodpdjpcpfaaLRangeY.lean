/-
  The pairs of a tree in a span: what is told is new.
-/
import Derived.Test.YtfihodpdjpcpfaaLRange
set_option linter.unusedSimpArgs false
set_option linter.unusedVariables false
set_option maxRecDepth 200000
set_option maxHeartbeats 4000000
namespace Go.Proofs.Ytfihodpdjpcpfaa
open Go.Ev

theorem yng_eB (o : Bool) (b : UInt8) (l : List UInt8) : AV.yng (.sl o (eB (b :: l))) = .sl o (eB (b :: l)) := rfl
theorem yng_eP {o : Bool} {z : List KV} (h : z ≠ []) : AV.yng (.sl o (eP z)) = .sl o (eP z) := by cases z with | nil => exact absurd rfl h | cons a l => rfl
theorem yng_nil (o : Bool) : AV.yng (.sl o []) = .sl false [] := rfl
theorem yng_s (v : Value) : AV.yng (.s v) = .s v := rfl
theorem clone_y (l : List UInt8) (h : l.length ≤ 140737488355328) : Ev tab G0 n_slices_Clone_sl_byte_byte_v1 [.sl true (eB l)] [] = some ([.sl false (eB l)], []) := by
  cases l with
  | nil =>
    refine Ev_nilq2 (rs := [.sl false []]) t_slices_Clone_sl_byte_byte_v1 rfl rfl rfl (evFn1_run rfl ?_) (evFn1_run rfl ?_)
    · simp (maxSteps := 1000000) (disch := first | omega | (simp only [List.length_cons, List.length_nil, List.length_append, List.length_map, List.length_take, List.length_drop]; omega)) only [go_sem, ↓reduceIte, Nat.reduceSub, Nat.reduceAdd, Nat.reduceMul, Nat.reduceLeDiff, Nat.reduceLT, Nat.reduceEqDiff, Nat.reduceBEq, Int.reduceLE, Int.reduceLT, Int.reduceEq, Int.reduceNeg, Int.reduceAdd, Int.reduceSub, Int.reduceMul, Int.reduceToNat, i_slices_Clone_sl_byte_byte_v1, yng_nil, yng_eB]
    · simp (maxSteps := 1000000) (disch := first | omega | (simp only [List.length_cons, List.length_nil, List.length_append, List.length_map, List.length_take, List.length_drop]; omega)) only [go_sem, ↓reduceIte, Nat.reduceSub, Nat.reduceAdd, Nat.reduceMul, Nat.reduceLeDiff, Nat.reduceLT, Nat.reduceEqDiff, Nat.reduceBEq, Int.reduceLE, Int.reduceLT, Int.reduceEq, Int.reduceNeg, Int.reduceAdd, Int.reduceSub, Int.reduceMul, Int.reduceToNat, i_slices_Clone_sl_byte_byte_v1, yng_nil, yng_eB]
  | cons b l =>
    simp only [List.length_cons] at h
    rw [show eB (b :: l) = e1 b :: eB l from rfl]
    refine Ev_notnil t_slices_Clone_sl_byte_byte_v1 rfl rfl (evFn1_run rfl ?_)
    simp (maxSteps := 1000000) (disch := first | omega | (simp only [List.length_cons, List.length_nil, List.length_append, List.length_map, List.length_take, List.length_drop]; omega)) only [go_sem, ↓reduceIte, Nat.reduceSub, Nat.reduceAdd, Nat.reduceMul, Nat.reduceLeDiff, Nat.reduceLT, Nat.reduceEqDiff, Nat.reduceBEq, Int.reduceLE, Int.reduceLT, Int.reduceEq, Int.reduceNeg, Int.reduceAdd, Int.reduceSub, Int.reduceMul, Int.reduceToNat, i_slices_Clone_sl_byte_byte_v1, yng_nil, yng_eB]
def ryO : List KV → Option Ev.Obj
  | [] => none
  | x :: l => some (.row ty_api_Pair 2 false false (eP (x :: l)))
theorem ryO_ne {l : List KV} (h : l ≠ []) : ryO l = some (.row ty_api_Pair 2 false false (eP l)) := by cases l with | nil => exact absurd rfl h | cons b l => rfl
theorem ryO_nil : ryO [] = none := rfl
theorem rangey_loop (f t : List UInt8) (o : Bool) (l : List T) (hl : l.length ≤ 1048576) (hm : ∀ u ∈ l, u.size ≤ 1048576) : ∀ (n j : Nat) (out : List KV), n + j = l.length → out.length + n ≤ 1048576 →
    L_scan_Range_v1_0 (s_scan_Range_v1_K0 (.ptr 1 0) (rpA 3 out) (.sl true (eT l)) (i64 l.length) (i64 j) [none, some (oSpan f t o), none, ryO out]) = some (.exit 0, s_scan_Range_v1_J0 (rpA 3 (out ++ rngL f t o (l.drop j))) [none, none, none, ryO (out ++ rngL f t o (l.drop j))])
  | 0, j, out, h, hb => by
    rw [List.drop_of_length_le (by omega), show rngL f t o [] = [] from rfl, List.append_nil, L_scan_Range_v1_0_eq]
    by_cases hr : out = []
    · subst hr
      simp (maxSteps := 1000000) (disch := first | omega | (simp only [List.length_cons, List.length_nil, List.length_append, List.length_map, List.length_take, List.length_drop]; omega)) only [go_sem, ↓reduceIte, Nat.reduceSub, Nat.reduceAdd, Nat.reduceMul, Nat.reduceLeDiff, Nat.reduceLT, Nat.reduceEqDiff, Nat.reduceBEq, Int.reduceLE, Int.reduceLT, Int.reduceEq, Int.reduceNeg, Int.reduceAdd, Int.reduceSub, Int.reduceMul, Int.reduceToNat, i_scan_Range_v1_b0, rpA_nil, ryO_nil]
    · rw [rpA_ne hr, ryO_ne hr]
      simp (maxSteps := 1000000) (disch := first | omega | (simp only [List.length_cons, List.length_nil, List.length_append, List.length_map, List.length_take, List.length_drop]; omega)) only [go_sem, ↓reduceIte, Nat.reduceSub, Nat.reduceAdd, Nat.reduceMul, Nat.reduceLeDiff, Nat.reduceLT, Nat.reduceEqDiff, Nat.reduceBEq, Int.reduceLE, Int.reduceLT, Int.reduceEq, Int.reduceNeg, Int.reduceAdd, Int.reduceSub, Int.reduceMul, Int.reduceToNat, i_scan_Range_v1_b0]
  | n + 1, j, out, h, hb => by
    have e0 := drop_step (l := l) (d := .no) (i := j) (by omega)
    have hx := hm _ (getD_mem' (d := T.no) (show j < l.length by omega))
    have hin := scan_In_ev f t (l.getD j .no).key o
    have hsz := size_eq (l.getD j .no)
    have hc1 := clone_y (l.getD j .no).key (by omega)
    have hc2 := clone_y (l.getD j .no).value (by omega)
    rw [e0, L_scan_Range_v1_0_eq]
    generalize hd : l.getD j .no = x at *
    by_cases c : inS f t o x.key = true
    · have ih := rangey_loop f t o l hl hm n (j + 1) (out ++ [(x.key, x.value)]) (by omega) (by simp only [List.length_append, List.length_cons, List.length_nil]; omega)
      have hln : (out ++ [(x.key, x.value)]).length = out.length + 1 := by simp
      have ea := eP_app (a := out) (b := [(x.key, x.value)])
      have e1 : [[C.sl (eB x.key), C.sl (eB x.value)]] = eP [(x.key, x.value)] := rfl
      have er : rngL f t o (x :: l.drop (j + 1)) = (x.key, x.value) :: rngL f t o (l.drop (j + 1)) := by unfold rngL; rw [List.filter_cons, if_pos c]; rfl
      rw [c] at hin
      rw [rpA_ne (l := out ++ [(x.key, x.value)]) (by simp), ryO_ne (l := out ++ [(x.key, x.value)]) (by simp), hln, List.append_assoc, List.singleton_append] at ih
      rw [er]
      generalize out ++ (x.key, x.value) :: rngL f t o (l.drop (j + 1)) = z at *
      by_cases hr : out = []
      · subst hr
        rw [rpA_nil, ryO_nil]
        simp only [List.nil_append, List.length_nil, Nat.zero_add] at ih ea
        try simp (maxSteps := 1000000) (disch := first | omega | (simp only [List.length_cons, List.length_nil, List.length_append, List.length_map, List.length_take, List.length_drop]; omega)) only [go_sem, ↓reduceIte, Nat.reduceSub, Nat.reduceAdd, Nat.reduceMul, Nat.reduceLeDiff, Nat.reduceLT, Nat.reduceEqDiff, Nat.reduceBEq, Int.reduceLE, Int.reduceLT, Int.reduceEq, Int.reduceNeg, Int.reduceAdd, Int.reduceSub, Int.reduceMul, Int.reduceToNat] at ih
        simp (maxSteps := 1000000) (disch := first | omega | (simp only [List.length_cons, List.length_nil, List.length_append, List.length_map, List.length_take, List.length_drop]; omega)) only [go_sem, ↓reduceIte, Nat.reduceSub, Nat.reduceAdd, Nat.reduceMul, Nat.reduceLeDiff, Nat.reduceLT, Nat.reduceEqDiff, Nat.reduceBEq, Int.reduceLE, Int.reduceLT, Int.reduceEq, Int.reduceNeg, Int.reduceAdd, Int.reduceSub, Int.reduceMul, Int.reduceToNat, i_scan_Range_v1_b0, hd, hin, hc1, hc2, e1, eP_emp, ih]
      · rw [rpA_ne hr, ryO_ne hr]
        generalize out ++ [(x.key, x.value)] = r2 at *
        try simp (maxSteps := 1000000) (disch := first | omega | (simp only [List.length_cons, List.length_nil, List.length_append, List.length_map, List.length_take, List.length_drop]; omega)) only [go_sem, ↓reduceIte, Nat.reduceSub, Nat.reduceAdd, Nat.reduceMul, Nat.reduceLeDiff, Nat.reduceLT, Nat.reduceEqDiff, Nat.reduceBEq, Int.reduceLE, Int.reduceLT, Int.reduceEq, Int.reduceNeg, Int.reduceAdd, Int.reduceSub, Int.reduceMul, Int.reduceToNat] at ih
        simp (maxSteps := 1000000) (disch := first | omega | (simp only [List.length_cons, List.length_nil, List.length_append, List.length_map, List.length_take, List.length_drop]; omega)) only [go_sem, ↓reduceIte, Nat.reduceSub, Nat.reduceAdd, Nat.reduceMul, Nat.reduceLeDiff, Nat.reduceLT, Nat.reduceEqDiff, Nat.reduceBEq, Int.reduceLE, Int.reduceLT, Int.reduceEq, Int.reduceNeg, Int.reduceAdd, Int.reduceSub, Int.reduceMul, Int.reduceToNat, i_scan_Range_v1_b0, hd, hin, hc1, hc2, e1, ea, hln, ih]
    · have ih := rangey_loop f t o l hl hm n (j + 1) out (by omega) (by omega)
      have er : rngL f t o (x :: l.drop (j + 1)) = rngL f t o (l.drop (j + 1)) := by unfold rngL; rw [List.filter_cons, if_neg c]
      have c' : inS f t o x.key = false := by simpa using c
      rw [c'] at hin
      rw [er]
      generalize out ++ rngL f t o (l.drop (j + 1)) = z at *
      by_cases hr : out = []
      · subst hr
        rw [rpA_nil, ryO_nil] at *
        try simp (maxSteps := 1000000) (disch := first | omega | (simp only [List.length_cons, List.length_nil, List.length_append, List.length_map, List.length_take, List.length_drop]; omega)) only [go_sem, ↓reduceIte, Nat.reduceSub, Nat.reduceAdd, Nat.reduceMul, Nat.reduceLeDiff, Nat.reduceLT, Nat.reduceEqDiff, Nat.reduceBEq, Int.reduceLE, Int.reduceLT, Int.reduceEq, Int.reduceNeg, Int.reduceAdd, Int.reduceSub, Int.reduceMul, Int.reduceToNat] at ih
        simp (maxSteps := 1000000) (disch := first | omega | (simp only [List.length_cons, List.length_nil, List.length_append, List.length_map, List.length_take, List.length_drop]; omega)) only [go_sem, ↓reduceIte, Nat.reduceSub, Nat.reduceAdd, Nat.reduceMul, Nat.reduceLeDiff, Nat.reduceLT, Nat.reduceEqDiff, Nat.reduceBEq, Int.reduceLE, Int.reduceLT, Int.reduceEq, Int.reduceNeg, Int.reduceAdd, Int.reduceSub, Int.reduceMul, Int.reduceToNat, i_scan_Range_v1_b0, hd, hin, ih]
      · rw [rpA_ne hr, ryO_ne hr] at *
        try simp (maxSteps := 1000000) (disch := first | omega | (simp only [List.length_cons, List.length_nil, List.length_append, List.length_map, List.length_take, List.length_drop]; omega)) only [go_sem, ↓reduceIte, Nat.reduceSub, Nat.reduceAdd, Nat.reduceMul, Nat.reduceLeDiff, Nat.reduceLT, Nat.reduceEqDiff, Nat.reduceBEq, Int.reduceLE, Int.reduceLT, Int.reduceEq, Int.reduceNeg, Int.reduceAdd, Int.reduceSub, Int.reduceMul, Int.reduceToNat] at ih
        simp (maxSteps := 1000000) (disch := first | omega | (simp only [List.length_cons, List.length_nil, List.length_append, List.length_map, List.length_take, List.length_drop]; omega)) only [go_sem, ↓reduceIte, Nat.reduceSub, Nat.reduceAdd, Nat.reduceMul, Nat.reduceLeDiff, Nat.reduceLT, Nat.reduceEqDiff, Nat.reduceBEq, Int.reduceLE, Int.reduceLT, Int.reduceEq, Int.reduceNeg, Int.reduceAdd, Int.reduceSub, Int.reduceMul, Int.reduceToNat, i_scan_Range_v1_b0, hd, hin, ih]
theorem scan_Range_y (t : T) (hs : t.size ≤ 1048576) (f g : List UInt8) (o : Bool) (h : t.isA = true) : Ev tab G0 n_scan_Range_v1 [avT t, avSpan f g o] [] = some ([.sl false (eP (rngL f g o t.list)), .s .nilIface], []) := by
  have h1 := avl_Is_ev t hs
  have hf := chk_formed (isA_chk h)
  have hl := list_size t hf
  have h2 := tree_List_ev t hs (isA_chk h)
  have h3 := rangey_loop f g o t.list (by omega) (fun u hu => by have := (list_mem t hf u hu).2.1; omega) t.list.length 0 [] (by omega) (by simp only [List.length_nil]; omega)
  have e0 : ((0 : Nat) : Int) = 0 := rfl
  rw [List.drop_zero, List.nil_append, rpA_nil, ryO_nil, e0] at h3
  rw [h] at h1
  have hz := rngL_len f g o t.list
  generalize rngL f g o t.list = z at *
  refine Ev_run t_scan_Range_v1 rfl rfl ?_
  by_cases hr : z = []
  · subst hr
    rw [rpA_nil, ryO_nil] at h3
    rw [eP_nil]
    simp (maxSteps := 1000000) (disch := first | omega | (simp only [List.length_cons, List.length_nil, List.length_append, List.length_map, List.length_take, List.length_drop]; omega)) only [go_sem, ↓reduceIte, Nat.reduceSub, Nat.reduceAdd, Nat.reduceMul, Nat.reduceLeDiff, Nat.reduceLT, Nat.reduceEqDiff, Nat.reduceBEq, Int.reduceLE, Int.reduceLT, Int.reduceEq, Int.reduceNeg, Int.reduceAdd, Int.reduceSub, Int.reduceMul, Int.reduceToNat, i_scan_Range_v1, h1, h2, h3, yng_nil, yng_s]
  · rw [rpA_ne hr, ryO_ne hr] at h3
    simp (maxSteps := 1000000) (disch := first | omega | (simp only [List.length_cons, List.length_nil, List.length_append, List.length_map, List.length_take, List.length_drop]; omega)) only [go_sem, ↓reduceIte, Nat.reduceSub, Nat.reduceAdd, Nat.reduceMul, Nat.reduceLeDiff, Nat.reduceLT, Nat.reduceEqDiff, Nat.reduceBEq, Int.reduceLE, Int.reduceLT, Int.reduceEq, Int.reduceNeg, Int.reduceAdd, Int.reduceSub, Int.reduceMul, Int.reduceToNat, i_scan_Range_v1, h1, h2, h3, yng_eP hr, yng_s]

end Go.Proofs.Ytfihodpdjpcpfaa
