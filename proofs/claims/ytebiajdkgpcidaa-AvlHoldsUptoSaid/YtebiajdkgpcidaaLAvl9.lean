/-
  Laws of putting in and of taking out.
-/
import Derived.Test.YtebiajdkgpcidaaLAvl8
set_option linter.unusedSimpArgs false
set_option linter.unusedVariables false
set_option maxRecDepth 200000
set_option maxHeartbeats 4000000
namespace Go.Proofs.Ytebiajdkgpcidaa
open Go.Ev

theorem avl_Put_good (b : B) (k v : List UInt8) (hg : b.good) (hd : b.depth ≤ 64) (hk : k.length ≤ 80) (hv : v.length ≤ 1024) (hs : b.t.size + k.length + v.length + 2 ≤ 1048576) : Ev tab G0 n_avl_Put [avB b, .sl true (eB k), .sl true (eB v)] [] = some ([avB (b.put k v), .s .nilIface], []) := by
  have h1 := avl_asked_ev b.t k v (by omega) (by omega) (by omega)
  have e : askA b.t k v = 0 := by unfold askA; rw [isA_of b hg hd, if_pos rfl, if_neg (by omega)]
  rw [e, errV, if_pos rfl] at h1
  have h2 := avl_put_ev b k v hg.ok hk hv hs
  have h3 := clone_bytes_ev k (by omega)
  have h4 := clone_bytes_ev v (by omega)
  generalize b.put k v = p at *
  refine Ev_run t_avl_Put rfl rfl ?_
  simp (maxSteps := 1000000) (disch := first | omega | (simp only [List.length_cons, List.length_nil, List.length_append, List.length_map, List.length_take, List.length_drop]; omega)) only [go_sem, ↓reduceIte, Nat.reduceSub, Nat.reduceAdd, Nat.reduceMul, Nat.reduceLeDiff, Nat.reduceLT, Nat.reduceEqDiff, Nat.reduceBEq, Int.reduceLE, Int.reduceLT, Int.reduceEq, Int.reduceNeg, Int.reduceAdd, Int.reduceSub, Int.reduceMul, Int.reduceToNat, i_avl_Put, h1, h2, h3, h4]
theorem avl_Put_bad (t : T) (k v : List UInt8) (hs : t.size ≤ 1048576) (hk : k.length ≤ 1048576) (hv : v.length ≤ 1048576) (h : ¬ askA t k v = 0) : Ev tab G0 n_avl_Put [avT t, .sl true (eB k), .sl true (eB v)] [] = some ([avB .n, errA (askA t k v)], []) := by
  have h1 := avl_asked_ev t k v hs hk hv
  rw [errV, if_neg h] at h1
  rw [avB_n]
  refine Ev_run t_avl_Put rfl rfl ?_
  simp (maxSteps := 1000000) (disch := first | omega | (simp only [List.length_cons, List.length_nil, List.length_append, List.length_map, List.length_take, List.length_drop]; omega)) only [go_sem, ↓reduceIte, Nat.reduceSub, Nat.reduceAdd, Nat.reduceMul, Nat.reduceLeDiff, Nat.reduceLT, Nat.reduceEqDiff, Nat.reduceBEq, Int.reduceLE, Int.reduceLT, Int.reduceEq, Int.reduceNeg, Int.reduceAdd, Int.reduceSub, Int.reduceMul, Int.reduceToNat, i_avl_Put, h1]
theorem lev_id (l : B) (k v : List UInt8) (r : B) (h1 : l.depth - r.depth ≤ 1) (h2 : r.depth - l.depth ≤ 1) : lev l k v r = .d l k v r := by
  unfold lev
  rw [if_neg (by omega), if_neg (by omega)]
theorem take_absent : ∀ (b : B) (k : List UInt8), b.bal = true → b.get k = none → b.take k = b
  | .n, k, _, _ => rfl
  | .d l a b r, k, hb, hg => by
    rw [bal_d] at hb
    obtain ⟨h1, h2, h3, h4⟩ := hb
    simp only [B.get] at hg
    simp only [B.take]
    by_cases c1 : cmp k a = 0
    · rw [if_pos c1] at hg
      cases hg
    · rw [if_neg c1] at hg
      by_cases c2 : cmp k a < 0
      · rw [if_pos c2] at hg ⊢
        rw [take_absent l k h1 hg, lev_id l a b r h3 h4]
      · rw [if_neg c2] at hg ⊢
        rw [if_pos (by omega), take_absent r k h2 hg, lev_id l a b r h3 h4]
theorem avl_Delete_good (b : B) (k : List UInt8) (hg : b.good) (hd : b.depth ≤ 64) (hk : k.length ≤ 80) (hs : b.t.size ≤ 1048576) : Ev tab G0 n_avl_Delete [avB b, .sl true (eB k)] [] = some ([avB (b.take k), bo (b.get k).isSome, .s .nilIface], []) := by
  have h1 := avl_Get_good b k hg hd hs hk
  have h2 := avl_take_ev b k hg.srt hg.ok hs
  refine Ev_run t_avl_Delete rfl rfl ?_
  cases hget : b.get k with
  | none =>
    rw [hget] at h1
    rw [take_absent b k hg.bal hget]
    try simp (maxSteps := 1000000) (disch := first | omega | (simp only [List.length_cons, List.length_nil, List.length_append, List.length_map, List.length_take, List.length_drop]; omega)) only [go_sem, ↓reduceIte, Nat.reduceSub, Nat.reduceAdd, Nat.reduceMul, Nat.reduceLeDiff, Nat.reduceLT, Nat.reduceEqDiff, Nat.reduceBEq, Int.reduceLE, Int.reduceLT, Int.reduceEq, Int.reduceNeg, Int.reduceAdd, Int.reduceSub, Int.reduceMul, Int.reduceToNat, Option.getD_none, Option.isSome_none] at h1
    simp (maxSteps := 1000000) (disch := first | omega | (simp only [List.length_cons, List.length_nil, List.length_append, List.length_map, List.length_take, List.length_drop]; omega)) only [go_sem, ↓reduceIte, Nat.reduceSub, Nat.reduceAdd, Nat.reduceMul, Nat.reduceLeDiff, Nat.reduceLT, Nat.reduceEqDiff, Nat.reduceBEq, Int.reduceLE, Int.reduceLT, Int.reduceEq, Int.reduceNeg, Int.reduceAdd, Int.reduceSub, Int.reduceMul, Int.reduceToNat, i_avl_Delete, h1, Option.isSome_none]
  | some v =>
    rw [hget] at h1
    generalize b.take k = p at *
    try simp (maxSteps := 1000000) (disch := first | omega | (simp only [List.length_cons, List.length_nil, List.length_append, List.length_map, List.length_take, List.length_drop]; omega)) only [go_sem, ↓reduceIte, Nat.reduceSub, Nat.reduceAdd, Nat.reduceMul, Nat.reduceLeDiff, Nat.reduceLT, Nat.reduceEqDiff, Nat.reduceBEq, Int.reduceLE, Int.reduceLT, Int.reduceEq, Int.reduceNeg, Int.reduceAdd, Int.reduceSub, Int.reduceMul, Int.reduceToNat, Option.getD_some, Option.isSome_some] at h1
    simp (maxSteps := 1000000) (disch := first | omega | (simp only [List.length_cons, List.length_nil, List.length_append, List.length_map, List.length_take, List.length_drop]; omega)) only [go_sem, ↓reduceIte, Nat.reduceSub, Nat.reduceAdd, Nat.reduceMul, Nat.reduceLeDiff, Nat.reduceLT, Nat.reduceEqDiff, Nat.reduceBEq, Int.reduceLE, Int.reduceLT, Int.reduceEq, Int.reduceNeg, Int.reduceAdd, Int.reduceSub, Int.reduceMul, Int.reduceToNat, i_avl_Delete, h1, h2, Option.isSome_some]
theorem avl_Delete_bad (t : T) (k : List UInt8) (hs : t.size ≤ 1048576) (hk : k.length ≤ 1048576) (h : ¬ askA t k [] = 0) : Ev tab G0 n_avl_Delete [avT t, .sl true (eB k)] [] = some ([avB .n, bo false, errA (askA t k [])], []) := by
  have h1 := avl_Get_bad t k hs hk h
  rw [avB_n]
  refine Ev_run t_avl_Delete rfl rfl ?_
  simp (maxSteps := 1000000) (disch := first | omega | (simp only [List.length_cons, List.length_nil, List.length_append, List.length_map, List.length_take, List.length_drop]; omega)) only [go_sem, ↓reduceIte, Nat.reduceSub, Nat.reduceAdd, Nat.reduceMul, Nat.reduceLeDiff, Nat.reduceLT, Nat.reduceEqDiff, Nat.reduceBEq, Int.reduceLE, Int.reduceLT, Int.reduceEq, Int.reduceNeg, Int.reduceAdd, Int.reduceSub, Int.reduceMul, Int.reduceToNat, i_avl_Delete, h1]
end Go.Proofs.Ytebiajdkgpcidaa
