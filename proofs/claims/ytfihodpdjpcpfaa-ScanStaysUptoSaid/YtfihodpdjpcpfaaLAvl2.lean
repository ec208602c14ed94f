/-
  Trees that are turned and leveled, by the evaluator.
-/
import Derived.Test.YtfihodpdjpcpfaaLAvl1
import Derived.Test.YtfihodpdjpcpfaaLCoder
set_option linter.unusedSimpArgs false
set_option linter.unusedVariables false
set_option maxRecDepth 200000
set_option maxHeartbeats 4000000
namespace Go.Proofs.Ytfihodpdjpcpfaa
open Go.Ev

abbrev avB (b : B) : AV := avT b.t
theorem avB_d {l r : B} {k v : List UInt8} : avB (.d l k v r) = .agg [i64 1, .sl true (eB k), .sl true (eB v), .sl true [], .sl true (eT [l.t, r.t])] := rfl
theorem ref05_Node_ev (l : B) (k v : List UInt8) (r : B) : Ev tab G0 n_ref05_Node [avB l, .sl true (eB k), .sl true (eB v), avB r] [] = some ([avB (.d l k v r)], []) := by
  have h1 : l.t.cells = [.sc (.int .i64 l.t.kind), .sl (eB l.t.key), .sl (eB l.t.value), .sl (eB l.t.digest), .sl (eT l.t.kids)] := cells_eq _
  have h2 : r.t.cells = [.sc (.int .i64 r.t.kind), .sl (eB r.t.key), .sl (eB r.t.value), .sl (eB r.t.digest), .sl (eT r.t.kids)] := cells_eq _
  have h3 : [[C.sc (.int .i64 l.t.kind), .sl (eB l.t.key), .sl (eB l.t.value), .sl (eB l.t.digest), .sl (eT l.t.kids)], [C.sc (.int .i64 r.t.kind), .sl (eB r.t.key), .sl (eB r.t.value), .sl (eB r.t.digest), .sl (eT r.t.kids)]] = eT [l.t, r.t] := by rw [← h1, ← h2]; simp [eT_map]
  rw [avB_d]
  refine Ev_run t_ref05_Node rfl rfl ?_
  simp (maxSteps := 1000000) (disch := first | omega | (simp only [List.length_cons, List.length_nil, List.length_append, List.length_map, List.length_take, List.length_drop]; omega)) only [go_sem, ↓reduceIte, Nat.reduceSub, Nat.reduceAdd, Nat.reduceMul, Nat.reduceLeDiff, Nat.reduceLT, Nat.reduceEqDiff, Nat.reduceBEq, Int.reduceLE, Int.reduceLT, Int.reduceEq, Int.reduceNeg, Int.reduceAdd, Int.reduceSub, Int.reduceMul, Int.reduceToNat, i_ref05_Node, h3]
theorem ref05_right_ev (a : B) (ak av : List UInt8) (b : B) (k v : List UInt8) (c : B) : Ev tab G0 n_ref05_right [avB (.d (.d a ak av b) k v c)] [] = some ([avB (.d a ak av (.d b k v c))], []) := by
  have h1 := ref05_Node_ev b k v c
  have h2 := ref05_Node_ev a ak av (.d b k v c)
  simp only [avB_d] at *
  simp only [Bt_d] at *
  refine Ev_run t_ref05_right rfl rfl ?_
  simp (maxSteps := 1000000) (disch := first | omega | (simp only [List.length_cons, List.length_nil, List.length_append, List.length_map, List.length_take, List.length_drop]; omega)) only [go_sem, ↓reduceIte, Nat.reduceSub, Nat.reduceAdd, Nat.reduceMul, Nat.reduceLeDiff, Nat.reduceLT, Nat.reduceEqDiff, Nat.reduceBEq, Int.reduceLE, Int.reduceLT, Int.reduceEq, Int.reduceNeg, Int.reduceAdd, Int.reduceSub, Int.reduceMul, Int.reduceToNat, i_ref05_right, h1, h2]
theorem ref05_left_ev (a : B) (k v : List UInt8) (b : B) (ck cv : List UInt8) (c : B) : Ev tab G0 n_ref05_left [avB (.d a k v (.d b ck cv c))] [] = some ([avB (.d (.d a k v b) ck cv c)], []) := by
  have h1 := ref05_Node_ev a k v b
  have h2 := ref05_Node_ev (.d a k v b) ck cv c
  simp only [avB_d] at *
  simp only [Bt_d] at *
  refine Ev_run t_ref05_left rfl rfl ?_
  simp (maxSteps := 1000000) (disch := first | omega | (simp only [List.length_cons, List.length_nil, List.length_append, List.length_map, List.length_take, List.length_drop]; omega)) only [go_sem, ↓reduceIte, Nat.reduceSub, Nat.reduceAdd, Nat.reduceMul, Nat.reduceLeDiff, Nat.reduceLT, Nat.reduceEqDiff, Nat.reduceBEq, Int.reduceLE, Int.reduceLT, Int.reduceEq, Int.reduceNeg, Int.reduceAdd, Int.reduceSub, Int.reduceMul, Int.reduceToNat, i_ref05_left, h1, h2]
theorem ref04_DepthB (b : B) (hs : b.t.size ≤ 1048576) (ho : b.ok = true) : Ev tab G0 n_ref04_Depth [avB b] [] = some ([i64 b.depth], []) := by
  have h1 := ref04_Depth_ev b.t (Bt_formed b ho) hs
  rwa [Bt_depth] at h1

end Go.Proofs.Ytfihodpdjpcpfaa
