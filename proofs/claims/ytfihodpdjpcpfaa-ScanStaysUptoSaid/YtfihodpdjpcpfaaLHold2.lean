/-
  Changes, one behind the other: what is kept.
-/
import Derived.Test.YtfihodpdjpcpfaaLHold
set_option linter.unusedSimpArgs false
set_option linter.unusedVariables false
set_option maxRecDepth 200000
set_option maxHeartbeats 4000000
namespace Go.Proofs.Ytfihodpdjpcpfaa
open Go.Ev

theorem insP_perm (k v : List UInt8) : ∀ L : List KV, srtP L → (insP k v L).Perm (L.filter (notK k) ++ [(k, v)])
  | [], _ => by simp [insP]
  | (a, b) :: L, h => by
    unfold srtP at h
    rw [List.pairwise_cons] at h
    have ih := insP_perm k v L h.2
    have sw := cmp_swap k a
    simp only [insP]
    by_cases c1 : cmp k a = 0
    · have hka := cmp_eq k a c1
      subst hka
      rw [if_pos c1]
      have e : notK k (k, b) = false := by unfold notK; rw [decide_eq_true (cmp_self k)]; rfl
      have ef : L.filter (notK k) = L := filter_all fun x hx => by
        have h1 : cmp k x.1 < 0 := h.1 x hx
        have s2 := cmp_swap k x.1
        unfold notK
        rw [decide_eq_false (by omega)]
        rfl
      rw [List.filter_cons, e, if_neg (by simp), ef]
      exact (List.perm_append_singleton (k, v) L).symm
    · have e : notK k (a, b) = true := by unfold notK; rw [decide_eq_false (by show ¬ cmp a k = 0; omega)]; rfl
      rw [if_neg c1, List.filter_cons, e, if_pos rfl]
      by_cases c2 : cmp k a < 0
      · rw [if_pos c2]
        have ef : L.filter (notK k) = L := filter_all fun x hx => by
          have h1 : cmp a x.1 < 0 := h.1 x hx
          have h2 := cmp_trans k a x.1 (by omega) (by omega)
          have s2 := cmp_swap k x.1
          unfold notK
          rw [decide_eq_false (by omega)]
          rfl
        rw [ef]
        exact (List.perm_append_singleton (k, v) ((a, b) :: L)).symm
      · rw [if_neg c2]
        exact ih.cons (a, b)
theorem getP_mem : ∀ {L : List KV} {x : KV}, srtP L → x ∈ L → getP L x.1 = some x.2
  | y :: L, x, h, hx => by
    unfold srtP at h
    rw [List.pairwise_cons] at h
    unfold getP
    rw [List.find?_cons]
    rcases List.mem_cons.1 hx with rfl | hx
    · rw [decide_eq_true (cmp_self x.1)]
      rfl
    · have h1 : cmp y.1 x.1 < 0 := h.1 x hx
      rw [decide_eq_false (by omega)]
      exact getP_mem h.2 hx
theorem getP_any (L : List KV) (k : List UInt8) : (getP L k).isSome = L.any fun x => !notK k x := by
  unfold getP
  induction L with
  | nil => rfl
  | cons x L ih =>
    rw [List.find?_cons, List.any_cons]
    by_cases c : cmp x.1 k = 0
    · have e : notK k x = false := by unfold notK; rw [decide_eq_true c]; rfl
      rw [decide_eq_true c, e]
      rfl
    · have e : notK k x = true := by unfold notK; rw [decide_eq_false c]; rfl
      rw [decide_eq_false c, e]
      simpa using ih
theorem any_perm {a b : List KV} (h : a.Perm b) (p : KV → Bool) : a.any p = b.any p := by
  induction h with
  | nil => rfl
  | cons x _ ih => simp only [List.any_cons, ih]
  | swap x y l => simp only [List.any_cons, ← Bool.or_assoc, Bool.or_comm (p y) (p x)]
  | trans _ _ i1 i2 => rw [i1, i2]
theorem sumP_le {L : List KV} (h : ∀ x ∈ L, x.1.length ≤ 80 ∧ x.2.length ≤ 1024) : sumP L ≤ L.length * 1106 := by
  induction L with
  | nil => simp [sumP]
  | cons x L ih =>
    have h1 := ih fun y hy => h y (by simp [hy])
    have h2 := h x (by simp)
    simp only [sumP, List.length_cons]
    omega
/-- What is kept. -/
structure Kept (b : B) (hv : List KV) (m : Nat) : Prop where
  good : b.good
  perm : b.list.Perm hv
  few : b.list.length ≤ m
theorem Kept.size {b : B} {hv : List KV} {m : Nat} (h : Kept b hv m) (hm : m ≤ 100) : b.t.size ≤ 110601 ∧ b.depth ≤ m ∧ hv.length ≤ m := by
  have h1 := sumP_le ((ok_list b).1 h.good.ok)
  have h2 := size_sum b
  have h3 := Bd_nodes b
  have h4 := Bl_nodes b
  have h5 := h.few
  have h6 := h.perm.length_eq
  refine ⟨by omega, by omega, by omega⟩
theorem Kept.put {b : B} {hv : List KV} {m : Nat} (h : Kept b hv m) (k v : List UInt8) (hk : k.length ≤ 80) (hvl : v.length ≤ 1024) : Kept (b.put k v) (hv.filter (notK k) ++ [(k, v)]) (m + 1) where
  good := put_good b k v h.good hk hvl
  perm := by
    rw [put_list b k v h.good.srt]
    exact (insP_perm k v b.list h.good.srt).trans ((h.perm.filter _).append_right _)
  few := by
    rw [put_list b k v h.good.srt, (insP_perm k v b.list h.good.srt).length_eq, List.length_append]
    have := List.length_filter_le (notK k) b.list
    have := h.few
    simp only [List.length_cons, List.length_nil]
    omega
theorem Kept.take {b : B} {hv : List KV} {m : Nat} (h : Kept b hv m) (k : List UInt8) : Kept (b.take k) (hv.filter (notK k)) (m + 1) where
  good := take_good b k h.good
  perm := by
    rw [take_list b k h.good.srt]
    exact h.perm.filter _
  few := by
    rw [take_list b k h.good.srt]
    exact Nat.le_trans (List.length_filter_le _ _) (Nat.le_succ_of_le h.few)
theorem Kept.more {b : B} {hv : List KV} {m : Nat} (h : Kept b hv m) : Kept b hv (m + 1) := ⟨h.good, h.perm, by have := h.few; omega⟩
theorem Kept.had {b : B} {hv : List KV} {m : Nat} (h : Kept b hv m) (k : List UInt8) : (b.get k).isSome = hv.any fun x => !notK k x := by
  rw [get_list b k h.good.srt, getP_any, any_perm h.perm]
end Go.Proofs.Ytfihodpdjpcpfaa
