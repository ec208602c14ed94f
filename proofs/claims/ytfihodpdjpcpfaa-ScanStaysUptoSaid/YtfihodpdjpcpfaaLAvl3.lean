/-
  Leveling, by the evaluator.
-/
import Derived.Test.YtfihodpdjpcpfaaLAvl2
set_option linter.unusedSimpArgs false
set_option linter.unusedVariables false
set_option maxRecDepth 200000
set_option maxHeartbeats 4000000
namespace Go.Proofs.Ytfihodpdjpcpfaa
open Go.Ev

theorem ok_d {l r : B} {k v : List UInt8} : ((B.d l k v r).ok = true) = (l.ok = true ∧ r.ok = true ∧ k.length ≤ 80 ∧ v.length ≤ 1024) := by
  simp only [B.ok, Bool.and_eq_true, decide_eq_true_eq, and_assoc]
theorem ref05_tilt_ev (l : B) (k v : List UInt8) (r : B) (hs : (B.d l k v r).t.size ≤ 1048576) (ho : (B.d l k v r).ok = true) : Ev tab G0 n_ref05_tilt [avB (.d l k v r)] [] = some ([i64 (l.depth - r.depth)], []) := by
  rw [Bt_size] at hs
  rw [ok_d] at ho
  have h1 := ref04_DepthB l (by omega) ho.1
  have h2 := ref04_DepthB r (by omega) ho.2.1
  have b1 := Bd_nn l
  have b2 := Bd_nn r
  have b3 : l.depth ≤ 1048576 := by have := Bd_size l; omega
  have b4 : r.depth ≤ 1048576 := by have := Bd_size r; omega
  generalize l.depth = x at *
  generalize r.depth = y at *
  simp only [avB_d] at *
  refine Ev_run t_ref05_tilt rfl rfl ?_
  simp (maxSteps := 1000000) (disch := first | omega | (simp only [List.length_cons, List.length_nil, List.length_append, List.length_map, List.length_take, List.length_drop]; omega)) only [go_sem, ↓reduceIte, Nat.reduceSub, Nat.reduceAdd, Nat.reduceMul, Nat.reduceLeDiff, Nat.reduceLT, Nat.reduceEqDiff, Nat.reduceBEq, Int.reduceLE, Int.reduceLT, Int.reduceEq, Int.reduceNeg, Int.reduceAdd, Int.reduceSub, Int.reduceMul, Int.reduceToNat, i_ref05_tilt, h1, h2]
theorem ref05_level_ev (l : B) (k v : List UInt8) (r : B) (hs : (B.d l k v r).t.size ≤ 1048576) (ho : (B.d l k v r).ok = true) (d1 : l.depth - r.depth ≤ 2) (d2 : r.depth - l.depth ≤ 2) : Ev tab G0 n_ref05_level [avB (.d l k v r)] [] = some ([avB (lev l k v r)], []) := by
  have h1 := ref05_tilt_ev l k v r hs ho
  have hs0 := hs
  rw [Bt_size] at hs
  rw [ok_d] at ho
  obtain ⟨ol, or', hk, hv⟩ := ho
  have b1 := Bd_nn l
  have b2 := Bd_nn r
  unfold lev
  by_cases c1 : 1 < l.depth - r.depth
  · rw [if_pos c1]
    obtain ⟨ll, lk, lv, lr, rfl⟩ := depth_pos (b := l) (by omega)
    have h3 := ref05_tilt_ev ll lk lv lr (by omega) ol
    have b5 := Bd_nn ll
    have b6 := Bd_nn lr
    generalize hd1 : (B.d ll lk lv lr).depth = x at *
    generalize hd2 : r.depth = y at *
    by_cases c2 : ll.depth < lr.depth
    · obtain ⟨a, ck, cv, c, rfl⟩ := depth_pos (b := lr) (by omega)
      have e : (B.d ll lk lv (.d a ck cv c)).lt = true := decide_eq_true c2
      rw [if_pos e]
      have h5 := ref05_left_ev ll lk lv a ck cv c
      have h6 := ref05_Node_ev (.d (.d ll lk lv a) ck cv c) k v r
      have h7 := ref05_right_ev (.d ll lk lv a) ck cv c k v r
      generalize hd3 : (B.d a ck cv c).depth = z at *
      generalize hd4 : ll.depth = u at *
      simp only [rotL, rotR]
      simp only [avB_d] at *
      simp only [Bt_d] at *
      refine Ev_run t_ref05_level rfl rfl ?_
      simp (maxSteps := 1000000) (disch := first | omega | (simp only [List.length_cons, List.length_nil, List.length_append, List.length_map, List.length_take, List.length_drop]; omega)) only [go_sem, ↓reduceIte, Nat.reduceSub, Nat.reduceAdd, Nat.reduceMul, Nat.reduceLeDiff, Nat.reduceLT, Nat.reduceEqDiff, Nat.reduceBEq, Int.reduceLE, Int.reduceLT, Int.reduceEq, Int.reduceNeg, Int.reduceAdd, Int.reduceSub, Int.reduceMul, Int.reduceToNat, i_ref05_level, h1, h3, h5, h6, h7]
    · have e : ¬ (B.d ll lk lv lr).lt = true := by simp only [B.lt, decide_eq_true_eq]; exact c2
      rw [if_neg e]
      have h7 := ref05_right_ev ll lk lv lr k v r
      generalize hd3 : lr.depth = z at *
      generalize hd4 : ll.depth = u at *
      simp only [rotR]
      simp only [avB_d] at *
      simp only [Bt_d] at *
      refine Ev_run t_ref05_level rfl rfl ?_
      simp (maxSteps := 1000000) (disch := first | omega | (simp only [List.length_cons, List.length_nil, List.length_append, List.length_map, List.length_take, List.length_drop]; omega)) only [go_sem, ↓reduceIte, Nat.reduceSub, Nat.reduceAdd, Nat.reduceMul, Nat.reduceLeDiff, Nat.reduceLT, Nat.reduceEqDiff, Nat.reduceBEq, Int.reduceLE, Int.reduceLT, Int.reduceEq, Int.reduceNeg, Int.reduceAdd, Int.reduceSub, Int.reduceMul, Int.reduceToNat, i_ref05_level, h1, h3, h7]
  · rw [if_neg c1]
    by_cases c3 : l.depth - r.depth < -1
    · rw [if_pos c3]
      obtain ⟨rl, rk, rv, rr, rfl⟩ := depth_pos (b := r) (by omega)
      have h3 := ref05_tilt_ev rl rk rv rr (by omega) or'
      have b5 := Bd_nn rl
      have b6 := Bd_nn rr
      generalize hd1 : (B.d rl rk rv rr).depth = x at *
      generalize hd2 : l.depth = y at *
      by_cases c2 : rr.depth < rl.depth
      · obtain ⟨a, ck, cv, c, rfl⟩ := depth_pos (b := rl) (by omega)
        have e : (B.d (.d a ck cv c) rk rv rr).gt = true := decide_eq_true c2
        rw [if_pos e]
        have h5 := ref05_right_ev a ck cv c rk rv rr
        have h6 := ref05_Node_ev l k v (.d a ck cv (.d c rk rv rr))
        have h7 := ref05_left_ev l k v a ck cv (.d c rk rv rr)
        generalize hd3 : (B.d a ck cv c).depth = z at *
        generalize hd4 : rr.depth = u at *
        simp only [rotL, rotR]
        simp only [avB_d] at *
        simp only [Bt_d] at *
        refine Ev_run t_ref05_level rfl rfl ?_
        simp (maxSteps := 1000000) (disch := first | omega | (simp only [List.length_cons, List.length_nil, List.length_append, List.length_map, List.length_take, List.length_drop]; omega)) only [go_sem, ↓reduceIte, Nat.reduceSub, Nat.reduceAdd, Nat.reduceMul, Nat.reduceLeDiff, Nat.reduceLT, Nat.reduceEqDiff, Nat.reduceBEq, Int.reduceLE, Int.reduceLT, Int.reduceEq, Int.reduceNeg, Int.reduceAdd, Int.reduceSub, Int.reduceMul, Int.reduceToNat, i_ref05_level, h1, h3, h5, h6, h7]
      · have e : ¬ (B.d rl rk rv rr).gt = true := by simp only [B.gt, decide_eq_true_eq]; exact c2
        rw [if_neg e]
        have h7 := ref05_left_ev l k v rl rk rv rr
        generalize hd3 : rl.depth = z at *
        generalize hd4 : rr.depth = u at *
        simp only [rotL]
        simp only [avB_d] at *
        simp only [Bt_d] at *
        refine Ev_run t_ref05_level rfl rfl ?_
        simp (maxSteps := 1000000) (disch := first | omega | (simp only [List.length_cons, List.length_nil, List.length_append, List.length_map, List.length_take, List.length_drop]; omega)) only [go_sem, ↓reduceIte, Nat.reduceSub, Nat.reduceAdd, Nat.reduceMul, Nat.reduceLeDiff, Nat.reduceLT, Nat.reduceEqDiff, Nat.reduceBEq, Int.reduceLE, Int.reduceLT, Int.reduceEq, Int.reduceNeg, Int.reduceAdd, Int.reduceSub, Int.reduceMul, Int.reduceToNat, i_ref05_level, h1, h3, h7]
    · rw [if_neg c3]
      generalize hd1 : r.depth = x at *
      generalize hd2 : l.depth = y at *
      simp only [avB_d] at *
      refine Ev_run t_ref05_level rfl rfl ?_
      simp (maxSteps := 1000000) (disch := first | omega | (simp only [List.length_cons, List.length_nil, List.length_append, List.length_map, List.length_take, List.length_drop]; omega)) only [go_sem, ↓reduceIte, Nat.reduceSub, Nat.reduceAdd, Nat.reduceMul, Nat.reduceLeDiff, Nat.reduceLT, Nat.reduceEqDiff, Nat.reduceBEq, Int.reduceLE, Int.reduceLT, Int.reduceEq, Int.reduceNeg, Int.reduceAdd, Int.reduceSub, Int.reduceMul, Int.reduceToNat, i_ref05_level, h1]

end Go.Proofs.Ytfihodpdjpcpfaa
