/-
  The pairs of a tree in a span.
-/
import Derived.Test.YtfihodpdjpcpfaaLPair
import Derived.Test.YtfihodpdjpcpfaaLScan
set_option linter.unusedSimpArgs false
set_option linter.unusedVariables false
set_option maxRecDepth 200000
set_option maxHeartbeats 4000000
namespace Go.Proofs.Ytfihodpdjpcpfaa
open Go.Ev

def rngL (f t : List UInt8) (o : Bool) (l : List T) : List KV := (l.filter fun n => inS f t o n.key).map fun n => (n.key, n.value)
theorem rngL_len (f t : List UInt8) (o : Bool) (l : List T) : (rngL f t o l).length ≤ l.length := by
  unfold rngL
  rw [List.length_map]
  exact List.length_filter_le _ _
abbrev oSpan (f t : List UInt8) (o : Bool) : Ev.Obj := .var [.sl true (eB f), .sl true (eB t), bo o]
theorem rrange_loop (f t : List UInt8) (o : Bool) (l : List T) (hl : l.length ≤ 1048576) (hm : ∀ u ∈ l, u.size ≤ 1048576) : ∀ (n j : Nat) (out : List KV), n + j = l.length → out.length + n ≤ 1048576 →
    L_ref06_Range_0 (s_ref06_Range_K0 (.ptr 1 0) (rpA 2 out) (.sl true (eT l)) (i64 j) [none, some (oSpan f t o), rpO out]) = some (.exit 0, s_ref06_Range_J0 (rpA 2 (out ++ rngL f t o (l.drop j))) [none, none, rpO (out ++ rngL f t o (l.drop j))])
  | 0, j, out, h, hb => by
    rw [List.drop_of_length_le (by omega), show rngL f t o [] = [] from rfl, List.append_nil, L_ref06_Range_0_eq]
    by_cases hr : out = []
    · subst hr
      simp (maxSteps := 1000000) (disch := first | omega | (simp only [List.length_cons, List.length_nil, List.length_append, List.length_map, List.length_take, List.length_drop]; omega)) only [go_sem, ↓reduceIte, Nat.reduceSub, Nat.reduceAdd, Nat.reduceMul, Nat.reduceLeDiff, Nat.reduceLT, Nat.reduceEqDiff, Nat.reduceBEq, Int.reduceLE, Int.reduceLT, Int.reduceEq, Int.reduceNeg, Int.reduceAdd, Int.reduceSub, Int.reduceMul, Int.reduceToNat, i_ref06_Range_b0, rpA_nil, rpO_nil]
    · rw [rpA_ne hr, rpO_ne hr]
      simp (maxSteps := 1000000) (disch := first | omega | (simp only [List.length_cons, List.length_nil, List.length_append, List.length_map, List.length_take, List.length_drop]; omega)) only [go_sem, ↓reduceIte, Nat.reduceSub, Nat.reduceAdd, Nat.reduceMul, Nat.reduceLeDiff, Nat.reduceLT, Nat.reduceEqDiff, Nat.reduceBEq, Int.reduceLE, Int.reduceLT, Int.reduceEq, Int.reduceNeg, Int.reduceAdd, Int.reduceSub, Int.reduceMul, Int.reduceToNat, i_ref06_Range_b0]
  | n + 1, j, out, h, hb => by
    have e0 := drop_step (l := l) (d := .no) (i := j) (by omega)
    have hin := ref06_In_ev f t (l.getD j .no).key o
    rw [e0, L_ref06_Range_0_eq]
    generalize hd : l.getD j .no = x at *
    by_cases c : inS f t o x.key = true
    · have ih := rrange_loop f t o l hl hm n (j + 1) (out ++ [(x.key, x.value)]) (by omega) (by simp only [List.length_append, List.length_cons, List.length_nil]; omega)
      have hln : (out ++ [(x.key, x.value)]).length = out.length + 1 := by simp
      have ea := eP_app (a := out) (b := [(x.key, x.value)])
      have e1 : [[C.sl (eB x.key), C.sl (eB x.value)]] = eP [(x.key, x.value)] := rfl
      have er : rngL f t o (x :: l.drop (j + 1)) = (x.key, x.value) :: rngL f t o (l.drop (j + 1)) := by unfold rngL; rw [List.filter_cons, if_pos c]; rfl
      rw [c] at hin
      rw [rpA_ne (l := out ++ [(x.key, x.value)]) (by simp), rpO_ne (l := out ++ [(x.key, x.value)]) (by simp), hln, List.append_assoc, List.singleton_append] at ih
      rw [er]
      generalize out ++ (x.key, x.value) :: rngL f t o (l.drop (j + 1)) = z at *
      by_cases hr : out = []
      · subst hr
        rw [rpA_nil, rpO_nil]
        simp only [List.nil_append, List.length_nil, Nat.zero_add] at ih ea
        try simp (maxSteps := 1000000) (disch := first | omega | (simp only [List.length_cons, List.length_nil, List.length_append, List.length_map, List.length_take, List.length_drop]; omega)) only [go_sem, ↓reduceIte, Nat.reduceSub, Nat.reduceAdd, Nat.reduceMul, Nat.reduceLeDiff, Nat.reduceLT, Nat.reduceEqDiff, Nat.reduceBEq, Int.reduceLE, Int.reduceLT, Int.reduceEq, Int.reduceNeg, Int.reduceAdd, Int.reduceSub, Int.reduceMul, Int.reduceToNat] at ih
        simp (maxSteps := 1000000) (disch := first | omega | (simp only [List.length_cons, List.length_nil, List.length_append, List.length_map, List.length_take, List.length_drop]; omega)) only [go_sem, ↓reduceIte, Nat.reduceSub, Nat.reduceAdd, Nat.reduceMul, Nat.reduceLeDiff, Nat.reduceLT, Nat.reduceEqDiff, Nat.reduceBEq, Int.reduceLE, Int.reduceLT, Int.reduceEq, Int.reduceNeg, Int.reduceAdd, Int.reduceSub, Int.reduceMul, Int.reduceToNat, i_ref06_Range_b0, hd, hin, e1, eP_emp, ih]
      · rw [rpA_ne hr, rpO_ne hr]
        generalize out ++ [(x.key, x.value)] = r2 at *
        try simp (maxSteps := 1000000) (disch := first | omega | (simp only [List.length_cons, List.length_nil, List.length_append, List.length_map, List.length_take, List.length_drop]; omega)) only [go_sem, ↓reduceIte, Nat.reduceSub, Nat.reduceAdd, Nat.reduceMul, Nat.reduceLeDiff, Nat.reduceLT, Nat.reduceEqDiff, Nat.reduceBEq, Int.reduceLE, Int.reduceLT, Int.reduceEq, Int.reduceNeg, Int.reduceAdd, Int.reduceSub, Int.reduceMul, Int.reduceToNat] at ih
        simp (maxSteps := 1000000) (disch := first | omega | (simp only [List.length_cons, List.length_nil, List.length_append, List.length_map, List.length_take, List.length_drop]; omega)) only [go_sem, ↓reduceIte, Nat.reduceSub, Nat.reduceAdd, Nat.reduceMul, Nat.reduceLeDiff, Nat.reduceLT, Nat.reduceEqDiff, Nat.reduceBEq, Int.reduceLE, Int.reduceLT, Int.reduceEq, Int.reduceNeg, Int.reduceAdd, Int.reduceSub, Int.reduceMul, Int.reduceToNat, i_ref06_Range_b0, hd, hin, e1, ea, hln, ih]
    · have ih := rrange_loop f t o l hl hm n (j + 1) out (by omega) (by omega)
      have er : rngL f t o (x :: l.drop (j + 1)) = rngL f t o (l.drop (j + 1)) := by unfold rngL; rw [List.filter_cons, if_neg c]
      have c' : inS f t o x.key = false := by simpa using c
      rw [c'] at hin
      rw [er]
      generalize out ++ rngL f t o (l.drop (j + 1)) = z at *
      by_cases hr : out = []
      · subst hr
        rw [rpA_nil, rpO_nil] at *
        try simp (maxSteps := 1000000) (disch := first | omega | (simp only [List.length_cons, List.length_nil, List.length_append, List.length_map, List.length_take, List.length_drop]; omega)) only [go_sem, ↓reduceIte, Nat.reduceSub, Nat.reduceAdd, Nat.reduceMul, Nat.reduceLeDiff, Nat.reduceLT, Nat.reduceEqDiff, Nat.reduceBEq, Int.reduceLE, Int.reduceLT, Int.reduceEq, Int.reduceNeg, Int.reduceAdd, Int.reduceSub, Int.reduceMul, Int.reduceToNat] at ih
        simp (maxSteps := 1000000) (disch := first | omega | (simp only [List.length_cons, List.length_nil, List.length_append, List.length_map, List.length_take, List.length_drop]; omega)) only [go_sem, ↓reduceIte, Nat.reduceSub, Nat.reduceAdd, Nat.reduceMul, Nat.reduceLeDiff, Nat.reduceLT, Nat.reduceEqDiff, Nat.reduceBEq, Int.reduceLE, Int.reduceLT, Int.reduceEq, Int.reduceNeg, Int.reduceAdd, Int.reduceSub, Int.reduceMul, Int.reduceToNat, i_ref06_Range_b0, hd, hin, ih]
      · rw [rpA_ne hr, rpO_ne hr] at *
        try simp (maxSteps := 1000000) (disch := first | omega | (simp only [List.length_cons, List.length_nil, List.length_append, List.length_map, List.length_take, List.length_drop]; omega)) only [go_sem, ↓reduceIte, Nat.reduceSub, Nat.reduceAdd, Nat.reduceMul, Nat.reduceLeDiff, Nat.reduceLT, Nat.reduceEqDiff, Nat.reduceBEq, Int.reduceLE, Int.reduceLT, Int.reduceEq, Int.reduceNeg, Int.reduceAdd, Int.reduceSub, Int.reduceMul, Int.reduceToNat] at ih
        simp (maxSteps := 1000000) (disch := first | omega | (simp only [List.length_cons, List.length_nil, List.length_append, List.length_map, List.length_take, List.length_drop]; omega)) only [go_sem, ↓reduceIte, Nat.reduceSub, Nat.reduceAdd, Nat.reduceMul, Nat.reduceLeDiff, Nat.reduceLT, Nat.reduceEqDiff, Nat.reduceBEq, Int.reduceLE, Int.reduceLT, Int.reduceEq, Int.reduceNeg, Int.reduceAdd, Int.reduceSub, Int.reduceMul, Int.reduceToNat, i_ref06_Range_b0, hd, hin, ih]
theorem isA_chk {t : T} (h : t.isA = true) : t.chk = 0 := by
  unfold T.isA at h
  simp only [Bool.and_eq_true, decide_eq_true_eq] at h
  exact h.1.1
theorem ref06_Range_ev (t : T) (hs : t.size ≤ 1048576) (f g : List UInt8) (o : Bool) (h : t.isA = true) : Ev tab G0 n_ref06_Range [avT t, avSpan f g o] [] = some ([.sl true (eP (rngL f g o t.list))], []) := by
  have hf := chk_formed (isA_chk h)
  have hl := list_size t hf
  have h2 := ref04_List_ev t hf hs
  have h3 := rrange_loop f g o t.list (by omega) (fun u hu => by have := (list_mem t hf u hu).2.1; omega) t.list.length 0 [] (by omega) (by simp only [List.length_nil]; omega)
  have e0 : ((0 : Nat) : Int) = 0 := rfl
  rw [List.drop_zero, List.nil_append, rpA_nil, rpO_nil, e0] at h3
  have hz := rngL_len f g o t.list
  generalize rngL f g o t.list = z at *
  refine Ev_run t_ref06_Range rfl rfl ?_
  by_cases hr : z = []
  · subst hr
    rw [rpA_nil, rpO_nil] at h3
    rw [eP_nil]
    simp (maxSteps := 1000000) (disch := first | omega | (simp only [List.length_cons, List.length_nil, List.length_append, List.length_map, List.length_take, List.length_drop]; omega)) only [go_sem, ↓reduceIte, Nat.reduceSub, Nat.reduceAdd, Nat.reduceMul, Nat.reduceLeDiff, Nat.reduceLT, Nat.reduceEqDiff, Nat.reduceBEq, Int.reduceLE, Int.reduceLT, Int.reduceEq, Int.reduceNeg, Int.reduceAdd, Int.reduceSub, Int.reduceMul, Int.reduceToNat, i_ref06_Range, h2, h3]
  · rw [rpA_ne hr, rpO_ne hr] at h3
    simp (maxSteps := 1000000) (disch := first | omega | (simp only [List.length_cons, List.length_nil, List.length_append, List.length_map, List.length_take, List.length_drop]; omega)) only [go_sem, ↓reduceIte, Nat.reduceSub, Nat.reduceAdd, Nat.reduceMul, Nat.reduceLeDiff, Nat.reduceLT, Nat.reduceEqDiff, Nat.reduceBEq, Int.reduceLE, Int.reduceLT, Int.reduceEq, Int.reduceNeg, Int.reduceAdd, Int.reduceSub, Int.reduceMul, Int.reduceToNat, i_ref06_Range, h2, h3]
/-! ### Likeness -/
def sameP : List KV → List KV → Bool
  | [], [] => true
  | x :: a, y :: b => (x.1 == y.1 && x.2 == y.2) && sameP a b
  | _, _ => false
theorem sameP_nil : sameP [] [] = true := rfl
theorem sameP_cons (x y : KV) (a b : List KV) : sameP (x :: a) (y :: b) = ((x.1 == y.1 && x.2 == y.2) && sameP a b) := rfl
theorem sameP_self : ∀ a : List KV, sameP a a = true
  | [] => rfl
  | x :: a => by simp [sameP, sameP_self a]
theorem sameP_loop (a b : List KV) (hl : a.length = b.length) (hb : a.length ≤ 1048576) : ∀ (n i : Nat), n + i = a.length →
    L_ref06_Same_0 (s_ref06_Same_K0 (.sl true (eP a)) (.sl true (eP b)) (i64 i) []) = if sameP (a.drop i) (b.drop i) = true then some (.exit 0, s_ref06_Same_J0 []) else some (.ret, s_ref06_Same_R (bo false) [])
  | 0, i, h => by
    rw [List.drop_of_length_le (by omega), List.drop_of_length_le (by omega), sameP_nil, if_pos rfl, L_ref06_Same_0_eq]
    simp (maxSteps := 1000000) (disch := first | omega | (simp only [List.length_cons, List.length_nil, List.length_append, List.length_map, List.length_take, List.length_drop]; omega)) only [go_sem, ↓reduceIte, Nat.reduceSub, Nat.reduceAdd, Nat.reduceMul, Nat.reduceLeDiff, Nat.reduceLT, Nat.reduceEqDiff, Nat.reduceBEq, Int.reduceLE, Int.reduceLT, Int.reduceEq, Int.reduceNeg, Int.reduceAdd, Int.reduceSub, Int.reduceMul, Int.reduceToNat, i_ref06_Same_b0]
  | n + 1, i, h => by
    have ih := sameP_loop a b hl hb n (i + 1) (by omega)
    rw [drop_step (l := a) (d := (([], []) : KV)) (i := i) (by omega), drop_step (l := b) (d := (([], []) : KV)) (i := i) (by omega), L_ref06_Same_0_eq]
    rw [sameP_cons]
    generalize hd1 : a.getD i ([], []) = x at *
    generalize hd2 : b.getD i ([], []) = y at *
    generalize sameP (a.drop (i + 1)) (b.drop (i + 1)) = z at *
    try simp (maxSteps := 1000000) (disch := first | omega | (simp only [List.length_cons, List.length_nil, List.length_append, List.length_map, List.length_take, List.length_drop]; omega)) only [go_sem, ↓reduceIte, Nat.reduceSub, Nat.reduceAdd, Nat.reduceMul, Nat.reduceLeDiff, Nat.reduceLT, Nat.reduceEqDiff, Nat.reduceBEq, Int.reduceLE, Int.reduceLT, Int.reduceEq, Int.reduceNeg, Int.reduceAdd, Int.reduceSub, Int.reduceMul, Int.reduceToNat] at ih
    cases c1 : x.1 == y.1
    · simp only [Bool.false_and, Bool.false_eq_true, if_false]
      simp (maxSteps := 1000000) (disch := first | omega | (simp only [List.length_cons, List.length_nil, List.length_append, List.length_map, List.length_take, List.length_drop]; omega)) only [go_sem, ↓reduceIte, Nat.reduceSub, Nat.reduceAdd, Nat.reduceMul, Nat.reduceLeDiff, Nat.reduceLT, Nat.reduceEqDiff, Nat.reduceBEq, Int.reduceLE, Int.reduceLT, Int.reduceEq, Int.reduceNeg, Int.reduceAdd, Int.reduceSub, Int.reduceMul, Int.reduceToNat, i_ref06_Same_b0, hd1, hd2, c1]
    · cases c2 : x.2 == y.2
      · simp only [Bool.false_and, Bool.and_false, Bool.false_eq_true, if_false]
        simp (maxSteps := 1000000) (disch := first | omega | (simp only [List.length_cons, List.length_nil, List.length_append, List.length_map, List.length_take, List.length_drop]; omega)) only [go_sem, ↓reduceIte, Nat.reduceSub, Nat.reduceAdd, Nat.reduceMul, Nat.reduceLeDiff, Nat.reduceLT, Nat.reduceEqDiff, Nat.reduceBEq, Int.reduceLE, Int.reduceLT, Int.reduceEq, Int.reduceNeg, Int.reduceAdd, Int.reduceSub, Int.reduceMul, Int.reduceToNat, i_ref06_Same_b0, hd1, hd2, c1, c2]
      · simp only [Bool.true_and]
        rw [← ih]
        simp (maxSteps := 1000000) (disch := first | omega | (simp only [List.length_cons, List.length_nil, List.length_append, List.length_map, List.length_take, List.length_drop]; omega)) only [go_sem, ↓reduceIte, Nat.reduceSub, Nat.reduceAdd, Nat.reduceMul, Nat.reduceLeDiff, Nat.reduceLT, Nat.reduceEqDiff, Nat.reduceBEq, Int.reduceLE, Int.reduceLT, Int.reduceEq, Int.reduceNeg, Int.reduceAdd, Int.reduceSub, Int.reduceMul, Int.reduceToNat, i_ref06_Same_b0, hd1, hd2, c1, c2]
theorem ref06_Same_ev (a b : List KV) (hb : a.length ≤ 1048576) (hb2 : b.length ≤ 1048576) : Ev tab G0 n_ref06_Same [.sl true (eP a), .sl true (eP b)] [] = some ([bo (sameP a b)], []) := by
  refine Ev_run t_ref06_Same rfl rfl ?_
  by_cases hl : a.length = b.length
  · have h1 := sameP_loop a b hl hb a.length 0 (by omega)
    have e0 : ((0 : Nat) : Int) = 0 := rfl
    rw [List.drop_zero, List.drop_zero, e0] at h1
    cases c : sameP a b
    · rw [c, if_neg (by simp)] at h1
      simp (maxSteps := 1000000) (disch := first | omega | (simp only [List.length_cons, List.length_nil, List.length_append, List.length_map, List.length_take, List.length_drop]; omega)) only [go_sem, ↓reduceIte, Nat.reduceSub, Nat.reduceAdd, Nat.reduceMul, Nat.reduceLeDiff, Nat.reduceLT, Nat.reduceEqDiff, Nat.reduceBEq, Int.reduceLE, Int.reduceLT, Int.reduceEq, Int.reduceNeg, Int.reduceAdd, Int.reduceSub, Int.reduceMul, Int.reduceToNat, i_ref06_Same, h1]
    · rw [c, if_pos rfl] at h1
      simp (maxSteps := 1000000) (disch := first | omega | (simp only [List.length_cons, List.length_nil, List.length_append, List.length_map, List.length_take, List.length_drop]; omega)) only [go_sem, ↓reduceIte, Nat.reduceSub, Nat.reduceAdd, Nat.reduceMul, Nat.reduceLeDiff, Nat.reduceLT, Nat.reduceEqDiff, Nat.reduceBEq, Int.reduceLE, Int.reduceLT, Int.reduceEq, Int.reduceNeg, Int.reduceAdd, Int.reduceSub, Int.reduceMul, Int.reduceToNat, i_ref06_Same, h1]
  · have e : sameP a b = false := by
      rw [Bool.eq_false_iff]
      intro h
      apply hl
      clear hl hb hb2
      induction a generalizing b with
      | nil => cases b with | nil => rfl | cons y b => simp [sameP] at h
      | cons x a ih =>
        cases b with
        | nil => simp [sameP] at h
        | cons y b =>
          simp only [sameP, Bool.and_eq_true] at h
          rw [List.length_cons, List.length_cons, ih b h.2]
    rw [e]
    simp (maxSteps := 1000000) (disch := first | omega | (simp only [List.length_cons, List.length_nil, List.length_append, List.length_map, List.length_take, List.length_drop]; omega)) only [go_sem, ↓reduceIte, Nat.reduceSub, Nat.reduceAdd, Nat.reduceMul, Nat.reduceLeDiff, Nat.reduceLT, Nat.reduceEqDiff, Nat.reduceBEq, Int.reduceLE, Int.reduceLT, Int.reduceEq, Int.reduceNeg, Int.reduceAdd, Int.reduceSub, Int.reduceMul, Int.reduceToNat, i_ref06_Same]

end Go.Proofs.Ytfihodpdjpcpfaa
