/-
  Putting in.
-/
import Derived.Test.YtfihodpdjpcpfaaLAvl3
set_option linter.unusedSimpArgs false
set_option linter.unusedVariables false
set_option maxRecDepth 200000
set_option maxHeartbeats 4000000
namespace Go.Proofs.Ytfihodpdjpcpfaa
open Go.Ev

def B.put : B → List UInt8 → List UInt8 → B
  | .n, k, v => .d .n k v .n
  | .d l a b r, k, v => if cmp k a = 0 then .d l a v r else if cmp k a < 0 then lev (l.put k v) a b r else lev l a b (r.put k v)
theorem rotR_size (l : B) (k v : List UInt8) (r : B) : (rotR (.d l k v r)).t.size = (B.d l k v r).t.size := by
  cases l with
  | n => rfl
  | d a b c e => simp only [rotR, Bt_size]; omega
theorem rotL_size (l : B) (k v : List UInt8) (r : B) : (rotL (.d l k v r)).t.size = (B.d l k v r).t.size := by
  cases r with
  | n => rfl
  | d a b c e => simp only [rotL, Bt_size]; omega
theorem lev_size (l : B) (k v : List UInt8) (r : B) : (lev l k v r).t.size = (B.d l k v r).t.size := by
  unfold lev
  split
  · rw [rotR_size, Bt_size, Bt_size]
    split
    · cases l with
      | n => rfl
      | d a b c e => rw [rotL_size]
    · rfl
  · split
    · rw [rotL_size, Bt_size, Bt_size]
      split
      · cases r with
        | n => rfl
        | d a b c e => rw [rotR_size]
      · rfl
    · rfl
theorem put_size : ∀ (b : B) (k v : List UInt8), (b.put k v).t.size ≤ b.t.size + k.length + v.length + 2
  | .n, k, v => by simp only [B.put, Bt_size, Bn_size]; omega
  | .d l a b r, k, v => by
    have h1 := put_size l k v
    have h2 := put_size r k v
    simp only [B.put]
    split
    · simp only [Bt_size]; omega
    · split
      · rw [lev_size]; simp only [Bt_size]; omega
      · rw [lev_size]; simp only [Bt_size]; omega
theorem put_ok : ∀ (b : B) (k v : List UInt8), b.ok = true → k.length ≤ 80 → v.length ≤ 1024 → (b.put k v).ok = true
  | .n, k, v, _, hk, hv => by simp only [B.put, ok_d]; exact ⟨rfl, rfl, hk, hv⟩
  | .d l a b r, k, v, h, hk, hv => by
    rw [ok_d] at h
    obtain ⟨h1, h2, h3, h4⟩ := h
    have i1 := put_ok l k v h1 hk hv
    have i2 := put_ok r k v h2 hk hv
    simp only [B.put]
    split
    · rw [ok_d]; exact ⟨h1, h2, h3, hv⟩
    · split
      · rw [lev_ok, ok_d]; exact ⟨i1, h2, h3, h4⟩
      · rw [lev_ok, ok_d]; exact ⟨h1, i2, h3, h4⟩
theorem put_bal : ∀ (b : B) (k v : List UInt8), b.bal = true → (b.put k v).bal = true ∧ b.depth ≤ (b.put k v).depth ∧ (b.put k v).depth ≤ b.depth + 1
  | .n, k, v, _ => ⟨rfl, by simp [B.put, B.depth], by simp [B.put, B.depth]⟩
  | .d l a b r, k, v, h => by
    rw [bal_d] at h
    obtain ⟨h1, h2, h3, h4⟩ := h
    obtain ⟨i1, i2, i3⟩ := put_bal l k v h1
    obtain ⟨j1, j2, j3⟩ := put_bal r k v h2
    simp only [B.put]
    split
    · rw [bal_d]; simp only [B.depth]; exact ⟨⟨h1, h2, h3, h4⟩, by omega, by omega⟩
    · split
      · obtain ⟨e1, e2, e3, e4⟩ := lev_bal (l.put k v) a b r i1 h2 (by omega) (by omega)
        refine ⟨e1, ?_, ?_⟩
        · simp only [B.depth] at *
          by_cases c : (l.put k v).depth - r.depth ≤ 1
          · have := e4 c (by omega); omega
          · omega
        · simp only [B.depth] at *
          by_cases c : (l.put k v).depth - r.depth ≤ 1
          · have := e4 c (by omega); omega
          · omega
      · obtain ⟨e1, e2, e3, e4⟩ := lev_bal l a b (r.put k v) h1 j1 (by omega) (by omega)
        refine ⟨e1, ?_, ?_⟩
        · simp only [B.depth] at *
          by_cases c : (r.put k v).depth - l.depth ≤ 1
          · have := e4 (by omega) c; omega
          · omega
        · simp only [B.depth] at *
          by_cases c : (r.put k v).depth - l.depth ≤ 1
          · have := e4 (by omega) c; omega
          · omega
theorem avB_n : avB .n = .agg [i64 0, .sl true [], .sl true [], .sl true [], .sl true []] := by
  simp only [avB, avT, Bt_n, no_kind, no_key, no_value, no_digest, no_kids, eB_nil, eT_nil]
theorem ref05_Put_ev : ∀ (b : B) (k v : List UInt8), b.ok = true → b.bal = true → k.length ≤ 80 → v.length ≤ 1024 → b.t.size + k.length + v.length + 2 ≤ 1048576 → Ev tab G0 n_ref05_Put [avB b, .sl true (eB k), .sl true (eB v)] [] = some ([avB (b.put k v)], [])
  | .n, k, v, ho, hb, hk, hv, hs => by
    have h1 := ref05_Node_ev .n k v .n
    simp only [B.put]
    simp only [avB_d, avB_n] at *
    simp only [Bt_d, Bt_n] at *
    refine Ev_run t_ref05_Put rfl rfl ?_
    simp (maxSteps := 1000000) (disch := first | omega | (simp only [List.length_cons, List.length_nil, List.length_append, List.length_map, List.length_take, List.length_drop]; omega)) only [go_sem, ↓reduceIte, Nat.reduceSub, Nat.reduceAdd, Nat.reduceMul, Nat.reduceLeDiff, Nat.reduceLT, Nat.reduceEqDiff, Nat.reduceBEq, Int.reduceLE, Int.reduceLT, Int.reduceEq, Int.reduceNeg, Int.reduceAdd, Int.reduceSub, Int.reduceMul, Int.reduceToNat, i_ref05_Put, h1]
  | .d l a b r, k, v, ho, hb, hk, hv, hs => by
    rw [ok_d] at ho
    obtain ⟨o1, o2, o3, o4⟩ := ho
    rw [bal_d] at hb
    obtain ⟨g1, g2, g3, g4⟩ := hb
    rw [Bt_size] at hs
    simp only [B.put]
    by_cases c1 : cmp k a = 0
    · rw [if_pos c1]
      have hka := cmp_eq k a c1
      subst hka
      have h1 := ref05_Node_ev l k v r
      simp only [avB_d] at *
      refine Ev_run t_ref05_Put rfl rfl ?_
      simp (maxSteps := 1000000) (disch := first | omega | (simp only [List.length_cons, List.length_nil, List.length_append, List.length_map, List.length_take, List.length_drop]; omega)) only [go_sem, ↓reduceIte, Nat.reduceSub, Nat.reduceAdd, Nat.reduceMul, Nat.reduceLeDiff, Nat.reduceLT, Nat.reduceEqDiff, Nat.reduceBEq, Int.reduceLE, Int.reduceLT, Int.reduceEq, Int.reduceNeg, Int.reduceAdd, Int.reduceSub, Int.reduceMul, Int.reduceToNat, i_ref05_Put, eq_cmp, h1]
    · rw [if_neg c1]
      by_cases c2 : cmp k a < 0
      · rw [if_pos c2]
        have h1 := ref05_Put_ev l k v o1 g1 hk hv (by omega)
        have h2 := ref05_Node_ev (l.put k v) a b r
        have hps := put_size l k v
        have hpb := put_bal l k v g1
        have h3 := ref05_level_ev (l.put k v) a b r (by rw [Bt_size]; omega) (by rw [ok_d]; exact ⟨put_ok l k v o1 hk hv, o2, o3, o4⟩) (by omega) (by omega)
        generalize l.put k v = p at *
        generalize lev p a b r = q at *
        simp only [avB_d] at *
        refine Ev_run t_ref05_Put rfl rfl ?_
        simp (maxSteps := 1000000) (disch := first | omega | (simp only [List.length_cons, List.length_nil, List.length_append, List.length_map, List.length_take, List.length_drop]; omega)) only [go_sem, ↓reduceIte, Nat.reduceSub, Nat.reduceAdd, Nat.reduceMul, Nat.reduceLeDiff, Nat.reduceLT, Nat.reduceEqDiff, Nat.reduceBEq, Int.reduceLE, Int.reduceLT, Int.reduceEq, Int.reduceNeg, Int.reduceAdd, Int.reduceSub, Int.reduceMul, Int.reduceToNat, i_ref05_Put, eq_cmp, less_cmp, h1, h2, h3]
      · rw [if_neg c2]
        have h1 := ref05_Put_ev r k v o2 g2 hk hv (by omega)
        have h2 := ref05_Node_ev l a b (r.put k v)
        have hps := put_size r k v
        have hpb := put_bal r k v g2
        have h3 := ref05_level_ev l a b (r.put k v) (by rw [Bt_size]; omega) (by rw [ok_d]; exact ⟨o1, put_ok r k v o2 hk hv, o3, o4⟩) (by omega) (by omega)
        generalize r.put k v = p at *
        generalize lev l a b p = q at *
        simp only [avB_d] at *
        refine Ev_run t_ref05_Put rfl rfl ?_
        simp (maxSteps := 1000000) (disch := first | omega | (simp only [List.length_cons, List.length_nil, List.length_append, List.length_map, List.length_take, List.length_drop]; omega)) only [go_sem, ↓reduceIte, Nat.reduceSub, Nat.reduceAdd, Nat.reduceMul, Nat.reduceLeDiff, Nat.reduceLT, Nat.reduceEqDiff, Nat.reduceBEq, Int.reduceLE, Int.reduceLT, Int.reduceEq, Int.reduceNeg, Int.reduceAdd, Int.reduceSub, Int.reduceMul, Int.reduceToNat, i_ref05_Put, eq_cmp, less_cmp, h1, h2, h3]

end Go.Proofs.Ytfihodpdjpcpfaa
