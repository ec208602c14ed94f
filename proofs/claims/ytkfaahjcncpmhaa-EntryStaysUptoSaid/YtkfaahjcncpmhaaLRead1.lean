/-
  Functions that a row is handed to as it is.
-/
import Derived.Test.YtkfaahjcncpmhaaIr
import Derived.Test.YtkfaahjcncpmhaaLCodeSz
set_option linter.unusedSimpArgs false
set_option linter.unusedVariables false
set_option maxRecDepth 200000
set_option maxHeartbeats 4000000
namespace Go.Proofs.Ytkfaahjcncpmhaa
open Go.Ev

theorem Ev_rawI {f : Nat} {fn : Ev.Fn} {a : AV} {ins : List Ev.Obj} {r : List AV × List Ev.Obj} (ht : tab f = some fn) (hr : fn.raw = [true]) (hn : ∀ o, a ≠ .sl o []) (h : evFn1 G0 LoopL (Ev tab G0) fn [a] ins = some r) : Ev tab G0 f [a] ins = some r := by
  refine Ev_of ?_
  simp only [evFn, ht, evFnC, hr, canonA]
  split
  · split
    · rename_i h1
      simp only [List.cons.injEq, and_true] at h1
      exact absurd h1 (hn _)
    · exact h
  · exact h
theorem Ev_nilqR {f : Nat} {fn : Ev.Fn} {o : Bool} (ht : tab f = some fn) (hq : fn.nilq = true) (hr : fn.raw = [true]) (h1 : evFn1 G0 LoopL (Ev tab G0) fn [.nilsl] [] = some ([.sl true []], [])) (h2 : evFn1 G0 LoopL (Ev tab G0) fn [.esl] [] = some ([.sl true []], [])) : Ev tab G0 f [.sl o []] [] = some ([.sl true []], []) := by
  refine Ev_of ?_
  simp only [evFn, ht, evFnC, hq, hr, canonA, if_true, h1, h2, both, eqAs, eqA, eqA1, eqE, Bool.and_self]
abbrev rowB1 (l : List UInt8) : Ev.Obj := .row ty_uint8 1 true false (eB l)
theorem clone_row (l : List UInt8) (h : l.length ≤ 1073741824) : Ev tab G0 n_slices_Clone_sl_byte_byte_v1 [.row 0 l.length] [rowB1 l] = some ([.sl true (eB l)], [rowB1 l]) := by
  refine Ev_rawI (a := .row 0 l.length) t_slices_Clone_sl_byte_byte_v1 rfl (fun o h => by cases h) (evFn1_run rfl ?_)
  simp (maxSteps := 1000000) (disch := first | omega | (simp only [lens, List.length_map]; omega)) only [go_sem, ↓reduceIte, Nat.reduceSub, Nat.reduceAdd, Nat.reduceMul, Nat.reduceLeDiff, Nat.reduceLT, Nat.reduceEqDiff, Nat.reduceBEq, Int.reduceLE, Int.reduceLT, Int.reduceEq, Int.reduceNeg, Int.reduceAdd, Int.reduceSub, Int.reduceMul, Int.reduceToNat, i_slices_Clone_sl_byte_byte_v1]
theorem clone_v1 (l : List UInt8) (h : l.length ≤ 1073741824) : Ev tab G0 n_slices_Clone_sl_byte_byte_v1 [.sl true (eB l)] [] = some ([.sl true (eB l)], []) := by
  cases l with
  | nil =>
    refine Ev_nilqR t_slices_Clone_sl_byte_byte_v1 rfl rfl (evFn1_run rfl ?_) (evFn1_run rfl ?_)
    · simp (maxSteps := 1000000) (disch := first | omega | (simp only [lens, List.length_map]; omega)) only [go_sem, ↓reduceIte, Nat.reduceSub, Nat.reduceAdd, Nat.reduceMul, Nat.reduceLeDiff, Nat.reduceLT, Nat.reduceEqDiff, Nat.reduceBEq, Int.reduceLE, Int.reduceLT, Int.reduceEq, Int.reduceNeg, Int.reduceAdd, Int.reduceSub, Int.reduceMul, Int.reduceToNat, i_slices_Clone_sl_byte_byte_v1]
    · simp (maxSteps := 1000000) (disch := first | omega | (simp only [lens, List.length_map]; omega)) only [go_sem, ↓reduceIte, Nat.reduceSub, Nat.reduceAdd, Nat.reduceMul, Nat.reduceLeDiff, Nat.reduceLT, Nat.reduceEqDiff, Nat.reduceBEq, Int.reduceLE, Int.reduceLT, Int.reduceEq, Int.reduceNeg, Int.reduceAdd, Int.reduceSub, Int.reduceMul, Int.reduceToNat, i_slices_Clone_sl_byte_byte_v1]
  | cons b l =>
    simp only [List.length_cons] at h
    rw [show eB (b :: l) = e1 b :: eB l from rfl]
    refine Ev_raw (a := .sl true (e1 b :: eB l)) t_slices_Clone_sl_byte_byte_v1 rfl (fun o h => by cases h) (evFn1_run rfl ?_)
    simp (maxSteps := 1000000) (disch := first | omega | (simp only [lens, List.length_map]; omega)) only [go_sem, ↓reduceIte, Nat.reduceSub, Nat.reduceAdd, Nat.reduceMul, Nat.reduceLeDiff, Nat.reduceLT, Nat.reduceEqDiff, Nat.reduceBEq, Int.reduceLE, Int.reduceLT, Int.reduceEq, Int.reduceNeg, Int.reduceAdd, Int.reduceSub, Int.reduceMul, Int.reduceToNat, i_slices_Clone_sl_byte_byte_v1]

end Go.Proofs.Ytkfaahjcncpmhaa
namespace Go.Proofs.Ytkfaahjcncpmhaa
open Go.Ev

theorem NewReader_row (l : List UInt8) (h : l.length ≤ 1073741824) : Ev tab G0 n_coder_NewReader_v1 [.row 0 l.length] [rowB1 l] = some ([.ptr 1 0], [rowB1 l, rO ⟨l, false⟩]) := by
  have h1 := clone_row l h
  refine Ev_run t_coder_NewReader_v1 rfl rfl ?_
  simp (maxSteps := 1000000) (disch := first | omega | (simp only [lens, List.length_map]; omega)) only [go_sem, ↓reduceIte, Nat.reduceSub, Nat.reduceAdd, Nat.reduceMul, Nat.reduceLeDiff, Nat.reduceLT, Nat.reduceEqDiff, Nat.reduceBEq, Int.reduceLE, Int.reduceLT, Int.reduceEq, Int.reduceNeg, Int.reduceAdd, Int.reduceSub, Int.reduceMul, Int.reduceToNat, i_coder_NewReader_v1, h1]
theorem NewReader_v1 (l : List UInt8) (h : l.length ≤ 1073741824) : Ev tab G0 n_coder_NewReader_v1 [.sl true (eB l)] [] = some ([.ptr 0 0], [rO ⟨l, false⟩]) := by
  have h1 := clone_v1 l h
  refine Ev_run t_coder_NewReader_v1 rfl rfl ?_
  simp (maxSteps := 1000000) (disch := first | omega | (simp only [lens, List.length_map]; omega)) only [go_sem, ↓reduceIte, Nat.reduceSub, Nat.reduceAdd, Nat.reduceMul, Nat.reduceLeDiff, Nat.reduceLT, Nat.reduceEqDiff, Nat.reduceBEq, Int.reduceLE, Int.reduceLT, Int.reduceEq, Int.reduceNeg, Int.reduceAdd, Int.reduceSub, Int.reduceMul, Int.reduceToNat, i_coder_NewReader_v1, h1]
end Go.Proofs.Ytkfaahjcncpmhaa
