/-
  Changes, one behind the other.
-/
import Derived.Test.YtebiajdkgpcidaaLPair
set_option linter.unusedSimpArgs false
set_option linter.unusedVariables false
set_option maxRecDepth 200000
set_option maxHeartbeats 4000000
namespace Go.Proofs.Ytebiajdkgpcidaa
open Go.Ev

structure Deed where
  k : List UInt8
  v : List UInt8
  out : Bool
def eD (l : List Deed) : List (List C) := l.map fun d => [.sl (eB d.k), .sl (eB d.v), .sc (.bool d.out)]
theorem eD_len {l : List Deed} : (eD l).length = l.length := by simp [eD]
theorem eD_sz {l : List Deed} : szOk 3 (eD l) = true := by simp [szOk, eD]
theorem eD_get {l : List Deed} {i : Nat} (h : i < l.length) : (eD l)[i]? = some [.sl (eB (l.getD i ⟨[], [], false⟩).k), .sl (eB (l.getD i ⟨[], [], false⟩).v), .sc (.bool (l.getD i ⟨[], [], false⟩).out)] := by
  simp [eD, List.getD, h]
attribute [go_sem] eD_len eD_sz eD_get
def notK (k : List UInt8) (x : KV) : Bool := !decide (cmp x.1 k = 0)
abbrev oD (d : Deed) : Ev.Obj := .var [.sl true (eB d.k), .sl true (eB d.v), bo d.out]
theorem hold_loop1 (l : List Deed) (hv : List KV) (hl : hv.length ≤ 1048576) (t : T) (i : Int) (d : Deed) : ∀ (n j : Nat) (rest : List KV) (had : Bool), n + j = hv.length → rest.length + n ≤ 1048576 →
    L_law05_AvlHolds_1 (s_law05_AvlHolds_K1 (.sl true (eD l)) (bo true) (.ptr 0 0) (.sl true (eP hv)) (i64 i) (.ptr 1 0) (rpA 2 rest) (bo had) (i64 j) [some (oT t), some (oD d), rpO rest, none, none]) = some (.exit 2, s_law05_AvlHolds_J2 (.sl true (eD l)) (bo true) (.ptr 0 0) (i64 i) (.ptr 1 0) (rpA 2 (rest ++ (hv.drop j).filter (notK d.k))) (bo (had || (hv.drop j).any fun x => !notK d.k x)) [some (oT t), some (oD d), rpO (rest ++ (hv.drop j).filter (notK d.k)), none, none])
  | 0, j, rest, had, h, hb => by
    rw [List.drop_of_length_le (by omega), List.filter_nil, List.append_nil, List.any_nil, Bool.or_false, L_law05_AvlHolds_1_eq]
    by_cases hr : rest = []
    · subst hr
      simp (maxSteps := 1000000) (disch := first | omega | (simp only [List.length_cons, List.length_nil, List.length_append, List.length_map, List.length_take, List.length_drop]; omega)) only [go_sem, ↓reduceIte, Nat.reduceSub, Nat.reduceAdd, Nat.reduceMul, Nat.reduceLeDiff, Nat.reduceLT, Nat.reduceEqDiff, Nat.reduceBEq, Int.reduceLE, Int.reduceLT, Int.reduceEq, Int.reduceNeg, Int.reduceAdd, Int.reduceSub, Int.reduceMul, Int.reduceToNat, i_law05_AvlHolds_b1, rpA_nil, rpO_nil]
    · rw [rpA_ne hr, rpO_ne hr]
      simp (maxSteps := 1000000) (disch := first | omega | (simp only [List.length_cons, List.length_nil, List.length_append, List.length_map, List.length_take, List.length_drop]; omega)) only [go_sem, ↓reduceIte, Nat.reduceSub, Nat.reduceAdd, Nat.reduceMul, Nat.reduceLeDiff, Nat.reduceLT, Nat.reduceEqDiff, Nat.reduceBEq, Int.reduceLE, Int.reduceLT, Int.reduceEq, Int.reduceNeg, Int.reduceAdd, Int.reduceSub, Int.reduceMul, Int.reduceToNat, i_law05_AvlHolds_b1]
  | n + 1, j, rest, had, h, hb => by
    have e0 := drop_step (l := hv) (d := (([], []) : KV)) (i := j) (by omega)
    rw [e0, List.filter_cons, List.any_cons, L_law05_AvlHolds_1_eq]
    generalize hd : hv.getD j ([], []) = x at *
    by_cases c : cmp x.1 d.k = 0
    · have e : (x.1 == d.k) = true := by rw [eq_cmp]; exact decide_eq_true c
      have en : notK d.k x = false := by unfold notK; rw [decide_eq_true c]; rfl
      have ih := hold_loop1 l hv hl t i d n (j + 1) rest true (by omega) (by omega)
      rw [en, if_neg (by simp)]
      simp only [Bool.true_or] at ih
      simp only [Bool.not_false, Bool.true_or, Bool.or_true]
      generalize rest ++ (hv.drop (j + 1)).filter (notK d.k) = z at *
      by_cases hr : rest = []
      · subst hr
        rw [rpA_nil, rpO_nil] at *
        try simp (maxSteps := 1000000) (disch := first | omega | (simp only [List.length_cons, List.length_nil, List.length_append, List.length_map, List.length_take, List.length_drop]; omega)) only [go_sem, ↓reduceIte, Nat.reduceSub, Nat.reduceAdd, Nat.reduceMul, Nat.reduceLeDiff, Nat.reduceLT, Nat.reduceEqDiff, Nat.reduceBEq, Int.reduceLE, Int.reduceLT, Int.reduceEq, Int.reduceNeg, Int.reduceAdd, Int.reduceSub, Int.reduceMul, Int.reduceToNat] at ih
        simp (maxSteps := 1000000) (disch := first | omega | (simp only [List.length_cons, List.length_nil, List.length_append, List.length_map, List.length_take, List.length_drop]; omega)) only [go_sem, ↓reduceIte, Nat.reduceSub, Nat.reduceAdd, Nat.reduceMul, Nat.reduceLeDiff, Nat.reduceLT, Nat.reduceEqDiff, Nat.reduceBEq, Int.reduceLE, Int.reduceLT, Int.reduceEq, Int.reduceNeg, Int.reduceAdd, Int.reduceSub, Int.reduceMul, Int.reduceToNat, i_law05_AvlHolds_b1, hd, e, ih]
      · rw [rpA_ne hr, rpO_ne hr] at *
        try simp (maxSteps := 1000000) (disch := first | omega | (simp only [List.length_cons, List.length_nil, List.length_append, List.length_map, List.length_take, List.length_drop]; omega)) only [go_sem, ↓reduceIte, Nat.reduceSub, Nat.reduceAdd, Nat.reduceMul, Nat.reduceLeDiff, Nat.reduceLT, Nat.reduceEqDiff, Nat.reduceBEq, Int.reduceLE, Int.reduceLT, Int.reduceEq, Int.reduceNeg, Int.reduceAdd, Int.reduceSub, Int.reduceMul, Int.reduceToNat] at ih
        simp (maxSteps := 1000000) (disch := first | omega | (simp only [List.length_cons, List.length_nil, List.length_append, List.length_map, List.length_take, List.length_drop]; omega)) only [go_sem, ↓reduceIte, Nat.reduceSub, Nat.reduceAdd, Nat.reduceMul, Nat.reduceLeDiff, Nat.reduceLT, Nat.reduceEqDiff, Nat.reduceBEq, Int.reduceLE, Int.reduceLT, Int.reduceEq, Int.reduceNeg, Int.reduceAdd, Int.reduceSub, Int.reduceMul, Int.reduceToNat, i_law05_AvlHolds_b1, hd, e, ih]
    · have e : (x.1 == d.k) = false := by rw [eq_cmp]; exact decide_eq_false c
      have en : notK d.k x = true := by unfold notK; rw [decide_eq_false c]; rfl
      have ih := hold_loop1 l hv hl t i d n (j + 1) (rest ++ [x]) had (by omega) (by simp only [List.length_append, List.length_cons, List.length_nil]; omega)
      have hln : (rest ++ [x]).length = rest.length + 1 := by simp
      have ea := eP_app (a := rest) (b := [x])
      have e1 : [[C.sl (eB x.1), C.sl (eB x.2)]] = eP [x] := rfl
      rw [en, if_pos rfl, rpA_ne (l := rest ++ [x]) (by simp), rpO_ne (l := rest ++ [x]) (by simp), hln, List.append_assoc] at *
      simp only [Bool.not_true, Bool.false_or]
      rw [List.singleton_append] at ih
      generalize rest ++ x :: (hv.drop (j + 1)).filter (notK d.k) = z at *
      generalize ((hv.drop (j + 1)).any fun x => !notK d.k x) = w at *
      by_cases hr : rest = []
      · subst hr
        rw [rpA_nil, rpO_nil]
        simp only [List.nil_append, List.length_nil, Nat.zero_add] at ih ea
        try simp (maxSteps := 1000000) (disch := first | omega | (simp only [List.length_cons, List.length_nil, List.length_append, List.length_map, List.length_take, List.length_drop]; omega)) only [go_sem, ↓reduceIte, Nat.reduceSub, Nat.reduceAdd, Nat.reduceMul, Nat.reduceLeDiff, Nat.reduceLT, Nat.reduceEqDiff, Nat.reduceBEq, Int.reduceLE, Int.reduceLT, Int.reduceEq, Int.reduceNeg, Int.reduceAdd, Int.reduceSub, Int.reduceMul, Int.reduceToNat] at ih
        simp (maxSteps := 1000000) (disch := first | omega | (simp only [List.length_cons, List.length_nil, List.length_append, List.length_map, List.length_take, List.length_drop]; omega)) only [go_sem, ↓reduceIte, Nat.reduceSub, Nat.reduceAdd, Nat.reduceMul, Nat.reduceLeDiff, Nat.reduceLT, Nat.reduceEqDiff, Nat.reduceBEq, Int.reduceLE, Int.reduceLT, Int.reduceEq, Int.reduceNeg, Int.reduceAdd, Int.reduceSub, Int.reduceMul, Int.reduceToNat, i_law05_AvlHolds_b1, hd, e, e1, eP_emp, ih]
      · rw [rpA_ne hr, rpO_ne hr]
        generalize rest ++ [x] = r2 at *
        try simp (maxSteps := 1000000) (disch := first | omega | (simp only [List.length_cons, List.length_nil, List.length_append, List.length_map, List.length_take, List.length_drop]; omega)) only [go_sem, ↓reduceIte, Nat.reduceSub, Nat.reduceAdd, Nat.reduceMul, Nat.reduceLeDiff, Nat.reduceLT, Nat.reduceEqDiff, Nat.reduceBEq, Int.reduceLE, Int.reduceLT, Int.reduceEq, Int.reduceNeg, Int.reduceAdd, Int.reduceSub, Int.reduceMul, Int.reduceToNat] at ih
        simp (maxSteps := 1000000) (disch := first | omega | (simp only [List.length_cons, List.length_nil, List.length_append, List.length_map, List.length_take, List.length_drop]; omega)) only [go_sem, ↓reduceIte, Nat.reduceSub, Nat.reduceAdd, Nat.reduceMul, Nat.reduceLeDiff, Nat.reduceLT, Nat.reduceEqDiff, Nat.reduceBEq, Int.reduceLE, Int.reduceLT, Int.reduceEq, Int.reduceNeg, Int.reduceAdd, Int.reduceSub, Int.reduceMul, Int.reduceToNat, i_law05_AvlHolds_b1, hd, e, e1, ea, hln, ih]

end Go.Proofs.Ytebiajdkgpcidaa
