/-
  Changes, one behind the other: what is kept.
-/
import Derived.Test.YtebiajdkgpcidaaLHold
set_option linter.unusedSimpArgs false
set_option linter.unusedVariables false
set_option maxRecDepth 200000
set_option maxHeartbeats 4000000
namespace Go.Proofs.Ytebiajdkgpcidaa
open Go.Ev

theorem insP_perm (k v : List UInt8) : ∀ L : List KV, srtP L → (insP k v L).Perm (L.filter (notK k) ++ [(k, v)])
  | [], _ => by simp [insP]
  | (a, b) :: L, h => by
    unfold srtP at h
    rw [List.pairwise_cons] at h
    have ih := insP_perm k v L h.2
    have sw := cmp_swap k a
    simp only [insP]
    by_cases c1 : cmp k a = 0
    · have hka := cmp_eq k a c1
      subst hka
      rw [if_pos c1]
      have e : notK k (k, b) = false := by unfold notK; rw [decide_eq_true (cmp_self k)]; rfl
      have ef : L.filter (notK k) = L := filter_all fun x hx => by
        have h1 : cmp k x.1 < 0 := h.1 x hx
        have s2 := cmp_swap k x.1
        unfold notK
        rw [decide_eq_false (by omega)]
        rfl
      rw [List.filter_cons, e, if_neg (by simp), ef]
      exact (List.perm_append_singleton (k, v) L).symm
    · have e : notK k (a, b) = true := by unfold notK; rw [decide_eq_false (by show ¬ cmp a k = 0; omega)]; rfl
      rw [if_neg c1, List.filter_cons, e, if_pos rfl]
      by_cases c2 : cmp k a < 0
      · rw [if_pos c2]
        have ef : L.filter (notK k) = L := filter_all fun x hx => by
          have h1 : cmp a x.1 < 0 := h.1 x hx
          have h2 := cmp_trans k a x.1 (by omega) (by omega)
          have s2 := cmp_swap k x.1
          unfold notK
          rw [decide_eq_false (by omega)]
          rfl
        rw [ef]
        exact (List.perm_append_singleton (k, v) ((a, b) :: L)).symm
      · rw [if_neg c2]
        exact ih.cons (a, b)
theorem getP_mem : ∀ {L : List KV} {x : KV}, srtP L → x ∈ L → getP L x.1 = some x.2
  | y :: L, x, h, hx => by
    unfold srtP at h
    rw [List.pairwise_cons] at h
    unfold getP
    rw [List.find?_cons]
    rcases List.mem_cons.1 hx with rfl | hx
    · rw [decide_eq_true (cmp_self x.1)]
      rfl
    · have h1 : cmp y.1 x.1 < 0 := h.1 x hx
      rw [decide_eq_false (by omega)]
      exact getP_mem h.2 hx
theorem getP_any (L : List KV) (k : List UInt8) : (getP L k).isSome = L.any fun x => !notK k x := by
  unfold getP
  induction L with
  | nil => rfl
  | cons x L ih =>
    rw [List.find?_cons, List.any_cons]
    by_cases c : cmp x.1 k = 0
    · have e : notK k x = false := by unfold notK; rw [decide_eq_true c]; rfl
      rw [decide_eq_true c, e]
      rfl
    · have e : notK k x = true := by unfold notK; rw [decide_eq_false c]; rfl
      rw [decide_eq_false c, e]
      simpa using ih
theorem any_perm {a b : List KV} (h : a.Perm b) (p : KV → Bool) : a.any p = b.any p := by
  induction h with
  | nil => rfl
  | cons x _ ih => simp only [List.any_cons, ih]
  | swap x y l => simp only [List.any_cons, ← Bool.or_assoc, Bool.or_comm (p y) (p x)]
  | trans _ _ i1 i2 => rw [i1, i2]
theorem sumP_le {L : List KV} (h : ∀ x ∈ L, x.1.length ≤ 80 ∧ x.2.length ≤ 1024) : sumP L ≤ L.length * 1106 := by
  induction L with
  | nil => simp [sumP]
  | cons x L ih =>
    have h1 := ih fun y hy => h y (by simp [hy])
    have h2 := h x (by simp)
    simp only [sumP, List.length_cons]
    omega
/-- What is kept. -/
structure Kept (b : B) (hv : List KV) (m : Nat) : Prop where
  good : b.good
  perm : b.list.Perm hv
  few : b.list.length ≤ m
theorem Kept.size {b : B} {hv : List KV} {m : Nat} (h : Kept b hv m) (hm : m ≤ 100) : b.t.size ≤ 110601 ∧ b.depth ≤ m ∧ hv.length ≤ m := by
  have h1 := sumP_le ((ok_list b).1 h.good.ok)
  have h2 := size_sum b
  have h3 := Bd_nodes b
  have h4 := Bl_nodes b
  have h5 := h.few
  have h6 := h.perm.length_eq
  refine ⟨by omega, by omega, by omega⟩
theorem Kept.put {b : B} {hv : List KV} {m : Nat} (h : Kept b hv m) (k v : List UInt8) (hk : k.length ≤ 80) (hvl : v.length ≤ 1024) : Kept (b.put k v) (hv.filter (notK k) ++ [(k, v)]) (m + 1) where
  good := put_good b k v h.good hk hvl
  perm := by
    rw [put_list b k v h.good.srt]
    exact (insP_perm k v b.list h.good.srt).trans ((h.perm.filter _).append_right _)
  few := by
    rw [put_list b k v h.good.srt, (insP_perm k v b.list h.good.srt).length_eq, List.length_append]
    have := List.length_filter_le (notK k) b.list
    have := h.few
    simp only [List.length_cons, List.length_nil]
    omega
theorem Kept.take {b : B} {hv : List KV} {m : Nat} (h : Kept b hv m) (k : List UInt8) : Kept (b.take k) (hv.filter (notK k)) (m + 1) where
  good := take_good b k h.good
  perm := by
    rw [take_list b k h.good.srt]
    exact h.perm.filter _
  few := by
    rw [take_list b k h.good.srt]
    exact Nat.le_trans (List.length_filter_le _ _) (Nat.le_succ_of_le h.few)
theorem Kept.more {b : B} {hv : List KV} {m : Nat} (h : Kept b hv m) : Kept b hv (m + 1) := ⟨h.good, h.perm, by have := h.few; omega⟩
theorem Kept.had {b : B} {hv : List KV} {m : Nat} (h : Kept b hv m) (k : List UInt8) : (b.get k).isSome = hv.any fun x => !notK k x := by
  rw [get_list b k h.good.srt, getP_any, any_perm h.perm]
theorem hold_loop0 (l : List Deed) (hl : l.length ≤ 1048576) : ∀ (n i : Nat) (b : B) (hv : List KV), n + i = min l.length 40 → Kept b hv i →
    ∃ b' hv', Kept b' hv' 40 ∧ L_law05_AvlHolds_0 (s_law05_AvlHolds_K0 (.sl true (eD l)) (bo true) (.ptr 0 0) (.sl true (eP hv)) (i64 i) [some (oT b.t), none, none, none, none]) = some (.exit 0, s_law05_AvlHolds_J0 (bo true) (.ptr 0 0) (.sl true (eP hv')) [some (oT b'.t), none, none, none, none])
  | 0, i, b, hv, h, hk => by
    refine ⟨b, hv, ⟨hk.good, hk.perm, by have := hk.few; omega⟩, ?_⟩
    rw [L_law05_AvlHolds_0_eq]
    generalize b.t = t at *
    by_cases hc : i < l.length
    · simp (maxSteps := 1000000) (disch := first | omega | (simp only [List.length_cons, List.length_nil, List.length_append, List.length_map, List.length_take, List.length_drop]; omega)) only [go_sem, ↓reduceIte, Nat.reduceSub, Nat.reduceAdd, Nat.reduceMul, Nat.reduceLeDiff, Nat.reduceLT, Nat.reduceEqDiff, Nat.reduceBEq, Int.reduceLE, Int.reduceLT, Int.reduceEq, Int.reduceNeg, Int.reduceAdd, Int.reduceSub, Int.reduceMul, Int.reduceToNat, i_law05_AvlHolds_b0]
    · simp (maxSteps := 1000000) (disch := first | omega | (simp only [List.length_cons, List.length_nil, List.length_append, List.length_map, List.length_take, List.length_drop]; omega)) only [go_sem, ↓reduceIte, Nat.reduceSub, Nat.reduceAdd, Nat.reduceMul, Nat.reduceLeDiff, Nat.reduceLT, Nat.reduceEqDiff, Nat.reduceBEq, Int.reduceLE, Int.reduceLT, Int.reduceEq, Int.reduceNeg, Int.reduceAdd, Int.reduceSub, Int.reduceMul, Int.reduceToNat, i_law05_AvlHolds_b0]
  | n + 1, i, b, hv, h, hk => by
    obtain ⟨s1, s2, s3⟩ := hk.size (by omega)
    have h1 := hold_loop1 l hv (by omega) b.t i (l.getD i ⟨[], [], false⟩) hv.length 0 [] false (by omega) (by simp; omega)
    have e0 : ((0 : Nat) : Int) = 0 := rfl
    rw [List.drop_zero, List.nil_append, Bool.false_or, ← hk.had, rpA_nil, rpO_nil, e0] at h1
    rw [L_law05_AvlHolds_0_eq]
    generalize hd : l.getD i ⟨[], [], false⟩ = d at *
    by_cases ck : 80 < d.k.length
    · obtain ⟨b', hv', k1, k2⟩ := hold_loop0 l hl n (i + 1) b hv (by omega) hk.more
      refine ⟨b', hv', k1, ?_⟩
      generalize b.t = t at *
      generalize b'.t = t' at *
      try simp (maxSteps := 1000000) (disch := first | omega | (simp only [List.length_cons, List.length_nil, List.length_append, List.length_map, List.length_take, List.length_drop]; omega)) only [go_sem, ↓reduceIte, Nat.reduceSub, Nat.reduceAdd, Nat.reduceMul, Nat.reduceLeDiff, Nat.reduceLT, Nat.reduceEqDiff, Nat.reduceBEq, Int.reduceLE, Int.reduceLT, Int.reduceEq, Int.reduceNeg, Int.reduceAdd, Int.reduceSub, Int.reduceMul, Int.reduceToNat] at k2
      simp (maxSteps := 1000000) (disch := first | omega | (simp only [List.length_cons, List.length_nil, List.length_append, List.length_map, List.length_take, List.length_drop]; omega)) only [go_sem, ↓reduceIte, Nat.reduceSub, Nat.reduceAdd, Nat.reduceMul, Nat.reduceLeDiff, Nat.reduceLT, Nat.reduceEqDiff, Nat.reduceBEq, Int.reduceLE, Int.reduceLT, Int.reduceEq, Int.reduceNeg, Int.reduceAdd, Int.reduceSub, Int.reduceMul, Int.reduceToNat, i_law05_AvlHolds_b0, hd, k2]
    · by_cases cv : 1024 < d.v.length
      · obtain ⟨b', hv', k1, k2⟩ := hold_loop0 l hl n (i + 1) b hv (by omega) hk.more
        refine ⟨b', hv', k1, ?_⟩
        generalize b.t = t at *
        generalize b'.t = t' at *
        try simp (maxSteps := 1000000) (disch := first | omega | (simp only [List.length_cons, List.length_nil, List.length_append, List.length_map, List.length_take, List.length_drop]; omega)) only [go_sem, ↓reduceIte, Nat.reduceSub, Nat.reduceAdd, Nat.reduceMul, Nat.reduceLeDiff, Nat.reduceLT, Nat.reduceEqDiff, Nat.reduceBEq, Int.reduceLE, Int.reduceLT, Int.reduceEq, Int.reduceNeg, Int.reduceAdd, Int.reduceSub, Int.reduceMul, Int.reduceToNat] at k2
        simp (maxSteps := 1000000) (disch := first | omega | (simp only [List.length_cons, List.length_nil, List.length_append, List.length_map, List.length_take, List.length_drop]; omega)) only [go_sem, ↓reduceIte, Nat.reduceSub, Nat.reduceAdd, Nat.reduceMul, Nat.reduceLeDiff, Nat.reduceLT, Nat.reduceEqDiff, Nat.reduceBEq, Int.reduceLE, Int.reduceLT, Int.reduceEq, Int.reduceNeg, Int.reduceAdd, Int.reduceSub, Int.reduceMul, Int.reduceToNat, i_law05_AvlHolds_b0, hd, k2]
      · cases ho : d.out
        · obtain ⟨b', hv', k1, k2⟩ := hold_loop0 l hl n (i + 1) (b.put d.k d.v) (hv.filter (notK d.k) ++ [(d.k, d.v)]) (by omega) (hk.put d.k d.v (by omega) (by omega))
          refine ⟨b', hv', k1, ?_⟩
          have h2 := avl_Put_good b d.k d.v hk.good (by omega) (by omega) (by omega) (by omega)
          have ea := eP_app (a := hv.filter (notK d.k)) (b := [(d.k, d.v)])
          have e1 : [[C.sl (eB d.k), C.sl (eB d.v)]] = eP [(d.k, d.v)] := rfl
          have hfl : (hv.filter (notK d.k)).length ≤ 1048576 := by have := List.length_filter_le (notK d.k) hv; omega
          generalize b.put d.k d.v = p at *
          simp only [avB] at *
          generalize p.t = pt at *
          generalize b.t = t at *
          generalize b'.t = t' at *
          generalize hx : (b.get d.k).isSome = x at *
          simp only [oD, ho] at h1
          by_cases hr : hv.filter (notK d.k) = []
          · rw [hr] at h1 k2 ea
            rw [rpA_nil, rpO_nil] at h1
            simp only [List.nil_append] at k2 ea
            try simp (maxSteps := 1000000) (disch := first | omega | (simp only [List.length_cons, List.length_nil, List.length_append, List.length_map, List.length_take, List.length_drop]; omega)) only [go_sem, ↓reduceIte, Nat.reduceSub, Nat.reduceAdd, Nat.reduceMul, Nat.reduceLeDiff, Nat.reduceLT, Nat.reduceEqDiff, Nat.reduceBEq, Int.reduceLE, Int.reduceLT, Int.reduceEq, Int.reduceNeg, Int.reduceAdd, Int.reduceSub, Int.reduceMul, Int.reduceToNat] at h1
            try simp (maxSteps := 1000000) (disch := first | omega | (simp only [List.length_cons, List.length_nil, List.length_append, List.length_map, List.length_take, List.length_drop]; omega)) only [go_sem, ↓reduceIte, Nat.reduceSub, Nat.reduceAdd, Nat.reduceMul, Nat.reduceLeDiff, Nat.reduceLT, Nat.reduceEqDiff, Nat.reduceBEq, Int.reduceLE, Int.reduceLT, Int.reduceEq, Int.reduceNeg, Int.reduceAdd, Int.reduceSub, Int.reduceMul, Int.reduceToNat] at k2
            simp (maxSteps := 1000000) (disch := first | omega | (simp only [List.length_cons, List.length_nil, List.length_append, List.length_map, List.length_take, List.length_drop]; omega)) only [go_sem, ↓reduceIte, Nat.reduceSub, Nat.reduceAdd, Nat.reduceMul, Nat.reduceLeDiff, Nat.reduceLT, Nat.reduceEqDiff, Nat.reduceBEq, Int.reduceLE, Int.reduceLT, Int.reduceEq, Int.reduceNeg, Int.reduceAdd, Int.reduceSub, Int.reduceMul, Int.reduceToNat, i_law05_AvlHolds_b0, hd, ho, h1, h2, k2, e1, eP_emp]
          · rw [rpA_ne hr, rpO_ne hr] at h1
            have hln : (hv.filter (notK d.k) ++ [(d.k, d.v)]).length = (hv.filter (notK d.k)).length + 1 := by simp
            generalize hv.filter (notK d.k) = r at *
            generalize r ++ [(d.k, d.v)] = r2 at *
            try simp (maxSteps := 1000000) (disch := first | omega | (simp only [List.length_cons, List.length_nil, List.length_append, List.length_map, List.length_take, List.length_drop]; omega)) only [go_sem, ↓reduceIte, Nat.reduceSub, Nat.reduceAdd, Nat.reduceMul, Nat.reduceLeDiff, Nat.reduceLT, Nat.reduceEqDiff, Nat.reduceBEq, Int.reduceLE, Int.reduceLT, Int.reduceEq, Int.reduceNeg, Int.reduceAdd, Int.reduceSub, Int.reduceMul, Int.reduceToNat] at h1
            try simp (maxSteps := 1000000) (disch := first | omega | (simp only [List.length_cons, List.length_nil, List.length_append, List.length_map, List.length_take, List.length_drop]; omega)) only [go_sem, ↓reduceIte, Nat.reduceSub, Nat.reduceAdd, Nat.reduceMul, Nat.reduceLeDiff, Nat.reduceLT, Nat.reduceEqDiff, Nat.reduceBEq, Int.reduceLE, Int.reduceLT, Int.reduceEq, Int.reduceNeg, Int.reduceAdd, Int.reduceSub, Int.reduceMul, Int.reduceToNat] at k2
            simp (maxSteps := 1000000) (disch := first | omega | (simp only [List.length_cons, List.length_nil, List.length_append, List.length_map, List.length_take, List.length_drop]; omega)) only [go_sem, ↓reduceIte, Nat.reduceSub, Nat.reduceAdd, Nat.reduceMul, Nat.reduceLeDiff, Nat.reduceLT, Nat.reduceEqDiff, Nat.reduceBEq, Int.reduceLE, Int.reduceLT, Int.reduceEq, Int.reduceNeg, Int.reduceAdd, Int.reduceSub, Int.reduceMul, Int.reduceToNat, i_law05_AvlHolds_b0, hd, ho, h1, h2, k2, e1, ea, hln]
        · obtain ⟨b', hv', k1, k2⟩ := hold_loop0 l hl n (i + 1) (b.take d.k) (hv.filter (notK d.k)) (by omega) (hk.take d.k)
          refine ⟨b', hv', k1, ?_⟩
          have h2 := avl_Delete_good b d.k hk.good (by omega) (by omega) (by omega)
          have hfl : (hv.filter (notK d.k)).length ≤ 1048576 := by have := List.length_filter_le (notK d.k) hv; omega
          generalize b.take d.k = p at *
          simp only [avB] at *
          generalize p.t = pt at *
          generalize b.t = t at *
          generalize b'.t = t' at *
          generalize hx : (b.get d.k).isSome = x at *
          have hxx : (x == x) = true := beq_self_eq_true x
          simp only [oD, ho] at h1
          by_cases hr : hv.filter (notK d.k) = []
          · rw [hr] at h1 k2
            rw [rpA_nil, rpO_nil] at h1
            rw [eP_nil] at k2
            try simp (maxSteps := 1000000) (disch := first | omega | (simp only [List.length_cons, List.length_nil, List.length_append, List.length_map, List.length_take, List.length_drop]; omega)) only [go_sem, ↓reduceIte, Nat.reduceSub, Nat.reduceAdd, Nat.reduceMul, Nat.reduceLeDiff, Nat.reduceLT, Nat.reduceEqDiff, Nat.reduceBEq, Int.reduceLE, Int.reduceLT, Int.reduceEq, Int.reduceNeg, Int.reduceAdd, Int.reduceSub, Int.reduceMul, Int.reduceToNat] at h1
            try simp (maxSteps := 1000000) (disch := first | omega | (simp only [List.length_cons, List.length_nil, List.length_append, List.length_map, List.length_take, List.length_drop]; omega)) only [go_sem, ↓reduceIte, Nat.reduceSub, Nat.reduceAdd, Nat.reduceMul, Nat.reduceLeDiff, Nat.reduceLT, Nat.reduceEqDiff, Nat.reduceBEq, Int.reduceLE, Int.reduceLT, Int.reduceEq, Int.reduceNeg, Int.reduceAdd, Int.reduceSub, Int.reduceMul, Int.reduceToNat] at k2
            simp (maxSteps := 1000000) (disch := first | omega | (simp only [List.length_cons, List.length_nil, List.length_append, List.length_map, List.length_take, List.length_drop]; omega)) only [go_sem, ↓reduceIte, Nat.reduceSub, Nat.reduceAdd, Nat.reduceMul, Nat.reduceLeDiff, Nat.reduceLT, Nat.reduceEqDiff, Nat.reduceBEq, Int.reduceLE, Int.reduceLT, Int.reduceEq, Int.reduceNeg, Int.reduceAdd, Int.reduceSub, Int.reduceMul, Int.reduceToNat, i_law05_AvlHolds_b0, hd, ho, h1, h2, k2, hxx]
          · rw [rpA_ne hr, rpO_ne hr] at h1
            generalize hv.filter (notK d.k) = r at *
            try simp (maxSteps := 1000000) (disch := first | omega | (simp only [List.length_cons, List.length_nil, List.length_append, List.length_map, List.length_take, List.length_drop]; omega)) only [go_sem, ↓reduceIte, Nat.reduceSub, Nat.reduceAdd, Nat.reduceMul, Nat.reduceLeDiff, Nat.reduceLT, Nat.reduceEqDiff, Nat.reduceBEq, Int.reduceLE, Int.reduceLT, Int.reduceEq, Int.reduceNeg, Int.reduceAdd, Int.reduceSub, Int.reduceMul, Int.reduceToNat] at h1
            try simp (maxSteps := 1000000) (disch := first | omega | (simp only [List.length_cons, List.length_nil, List.length_append, List.length_map, List.length_take, List.length_drop]; omega)) only [go_sem, ↓reduceIte, Nat.reduceSub, Nat.reduceAdd, Nat.reduceMul, Nat.reduceLeDiff, Nat.reduceLT, Nat.reduceEqDiff, Nat.reduceBEq, Int.reduceLE, Int.reduceLT, Int.reduceEq, Int.reduceNeg, Int.reduceAdd, Int.reduceSub, Int.reduceMul, Int.reduceToNat] at k2
            simp (maxSteps := 1000000) (disch := first | omega | (simp only [List.length_cons, List.length_nil, List.length_append, List.length_map, List.length_take, List.length_drop]; omega)) only [go_sem, ↓reduceIte, Nat.reduceSub, Nat.reduceAdd, Nat.reduceMul, Nat.reduceLeDiff, Nat.reduceLT, Nat.reduceEqDiff, Nat.reduceBEq, Int.reduceLE, Int.reduceLT, Int.reduceEq, Int.reduceNeg, Int.reduceAdd, Int.reduceSub, Int.reduceMul, Int.reduceToNat, i_law05_AvlHolds_b0, hd, ho, h1, h2, k2, hxx]
theorem hold_loop1Z (l : List Deed) (i : Int) (d : Deed) :
    L_law05_AvlHolds_1 (s_law05_AvlHolds_K1 (.sl true (eD l)) (bo true) (.ptr 0 0) (.sl true (eP [])) (i64 i) (.ptr 1 0) (rpA 2 []) (bo false) (i64 0) [some oZ5, some (oD d), rpO [], none, none]) = some (.exit 2, s_law05_AvlHolds_J2 (.sl true (eD l)) (bo true) (.ptr 0 0) (i64 i) (.ptr 1 0) (rpA 2 []) (bo false) [some oZ5, some (oD d), rpO [], none, none]) := by
  rw [L_law05_AvlHolds_1_eq, rpA_nil, rpO_nil, eP_nil]
  simp (maxSteps := 1000000) (disch := first | omega | (simp only [List.length_cons, List.length_nil, List.length_append, List.length_map, List.length_take, List.length_drop]; omega)) only [go_sem, ↓reduceIte, Nat.reduceSub, Nat.reduceAdd, Nat.reduceMul, Nat.reduceLeDiff, Nat.reduceLT, Nat.reduceEqDiff, Nat.reduceBEq, Int.reduceLE, Int.reduceLT, Int.reduceEq, Int.reduceNeg, Int.reduceAdd, Int.reduceSub, Int.reduceMul, Int.reduceToNat, i_law05_AvlHolds_b1]
theorem hold_loopZ (l : List Deed) (hl : l.length ≤ 1048576) : ∀ (n i : Nat), n + i = min l.length 40 → 
    ∃ o b' hv', Kept b' hv' 40 ∧ (o = oT b'.t ∨ (o = oZ5 ∧ b' = .n ∧ hv' = [])) ∧ L_law05_AvlHolds_0 (s_law05_AvlHolds_K0 (.sl true (eD l)) (bo true) (.ptr 0 0) (.sl true []) (i64 i) [some oZ5, none, none, none, none]) = some (.exit 0, s_law05_AvlHolds_J0 (bo true) (.ptr 0 0) (.sl true (eP hv')) [some o, none, none, none, none])
  | 0, i, h => by
    refine ⟨oZ5, .n, [], ⟨n_good, .nil, by simp [B.list]⟩, .inr ⟨rfl, rfl, rfl⟩, ?_⟩
    rw [L_law05_AvlHolds_0_eq, eP_nil]
    by_cases hc : i < l.length
    · simp (maxSteps := 1000000) (disch := first | omega | (simp only [List.length_cons, List.length_nil, List.length_append, List.length_map, List.length_take, List.length_drop]; omega)) only [go_sem, ↓reduceIte, Nat.reduceSub, Nat.reduceAdd, Nat.reduceMul, Nat.reduceLeDiff, Nat.reduceLT, Nat.reduceEqDiff, Nat.reduceBEq, Int.reduceLE, Int.reduceLT, Int.reduceEq, Int.reduceNeg, Int.reduceAdd, Int.reduceSub, Int.reduceMul, Int.reduceToNat, i_law05_AvlHolds_b0]
    · simp (maxSteps := 1000000) (disch := first | omega | (simp only [List.length_cons, List.length_nil, List.length_append, List.length_map, List.length_take, List.length_drop]; omega)) only [go_sem, ↓reduceIte, Nat.reduceSub, Nat.reduceAdd, Nat.reduceMul, Nat.reduceLeDiff, Nat.reduceLT, Nat.reduceEqDiff, Nat.reduceBEq, Int.reduceLE, Int.reduceLT, Int.reduceEq, Int.reduceNeg, Int.reduceAdd, Int.reduceSub, Int.reduceMul, Int.reduceToNat, i_law05_AvlHolds_b0]
  | n + 1, i, h => by
    have h1 := hold_loop1Z l i (l.getD i ⟨[], [], false⟩)
    rw [rpA_nil, rpO_nil, eP_nil] at h1
    have hk0 : Kept .n [] i := ⟨n_good, .nil, by simp [B.list]⟩
    obtain ⟨s1, s2, s3⟩ := hk0.size (by omega)
    rw [L_law05_AvlHolds_0_eq]
    generalize hd : l.getD i ⟨[], [], false⟩ = d at *
    by_cases ck : 80 < d.k.length
    · obtain ⟨o, b', hv', k1, k3, k2⟩ := hold_loopZ l hl n (i + 1) (by omega)
      refine ⟨o, b', hv', k1, k3, ?_⟩
      try simp (maxSteps := 1000000) (disch := first | omega | (simp only [List.length_cons, List.length_nil, List.length_append, List.length_map, List.length_take, List.length_drop]; omega)) only [go_sem, ↓reduceIte, Nat.reduceSub, Nat.reduceAdd, Nat.reduceMul, Nat.reduceLeDiff, Nat.reduceLT, Nat.reduceEqDiff, Nat.reduceBEq, Int.reduceLE, Int.reduceLT, Int.reduceEq, Int.reduceNeg, Int.reduceAdd, Int.reduceSub, Int.reduceMul, Int.reduceToNat] at k2
      simp (maxSteps := 1000000) (disch := first | omega | (simp only [List.length_cons, List.length_nil, List.length_append, List.length_map, List.length_take, List.length_drop]; omega)) only [go_sem, ↓reduceIte, Nat.reduceSub, Nat.reduceAdd, Nat.reduceMul, Nat.reduceLeDiff, Nat.reduceLT, Nat.reduceEqDiff, Nat.reduceBEq, Int.reduceLE, Int.reduceLT, Int.reduceEq, Int.reduceNeg, Int.reduceAdd, Int.reduceSub, Int.reduceMul, Int.reduceToNat, i_law05_AvlHolds_b0, hd, k2]
    · by_cases cv : 1024 < d.v.length
      · obtain ⟨o, b', hv', k1, k3, k2⟩ := hold_loopZ l hl n (i + 1) (by omega)
        refine ⟨o, b', hv', k1, k3, ?_⟩
        try simp (maxSteps := 1000000) (disch := first | omega | (simp only [List.length_cons, List.length_nil, List.length_append, List.length_map, List.length_take, List.length_drop]; omega)) only [go_sem, ↓reduceIte, Nat.reduceSub, Nat.reduceAdd, Nat.reduceMul, Nat.reduceLeDiff, Nat.reduceLT, Nat.reduceEqDiff, Nat.reduceBEq, Int.reduceLE, Int.reduceLT, Int.reduceEq, Int.reduceNeg, Int.reduceAdd, Int.reduceSub, Int.reduceMul, Int.reduceToNat] at k2
        simp (maxSteps := 1000000) (disch := first | omega | (simp only [List.length_cons, List.length_nil, List.length_append, List.length_map, List.length_take, List.length_drop]; omega)) only [go_sem, ↓reduceIte, Nat.reduceSub, Nat.reduceAdd, Nat.reduceMul, Nat.reduceLeDiff, Nat.reduceLT, Nat.reduceEqDiff, Nat.reduceBEq, Int.reduceLE, Int.reduceLT, Int.reduceEq, Int.reduceNeg, Int.reduceAdd, Int.reduceSub, Int.reduceMul, Int.reduceToNat, i_law05_AvlHolds_b0, hd, k2]
      · cases ho : d.out
        · obtain ⟨b', hv', k1, k2⟩ := hold_loop0 l hl n (i + 1) (B.n.put d.k d.v) [(d.k, d.v)] (by omega) (hk0.put d.k d.v (by omega) (by omega))
          refine ⟨_, b', hv', k1, .inl rfl, ?_⟩
          have h2 := avl_Put_good .n d.k d.v n_good (by omega) (by omega) (by omega) (by omega)
          have e1 : [[C.sl (eB d.k), C.sl (eB d.v)]] = eP [(d.k, d.v)] := rfl
          generalize B.n.put d.k d.v = p at *
          simp only [avB_n] at h2
          simp only [avB] at *
          generalize p.t = pt at *
          generalize b'.t = t' at *
          simp only [oD, ho] at h1
          try simp (maxSteps := 1000000) (disch := first | omega | (simp only [List.length_cons, List.length_nil, List.length_append, List.length_map, List.length_take, List.length_drop]; omega)) only [go_sem, ↓reduceIte, Nat.reduceSub, Nat.reduceAdd, Nat.reduceMul, Nat.reduceLeDiff, Nat.reduceLT, Nat.reduceEqDiff, Nat.reduceBEq, Int.reduceLE, Int.reduceLT, Int.reduceEq, Int.reduceNeg, Int.reduceAdd, Int.reduceSub, Int.reduceMul, Int.reduceToNat] at h1
          try simp (maxSteps := 1000000) (disch := first | omega | (simp only [List.length_cons, List.length_nil, List.length_append, List.length_map, List.length_take, List.length_drop]; omega)) only [go_sem, ↓reduceIte, Nat.reduceSub, Nat.reduceAdd, Nat.reduceMul, Nat.reduceLeDiff, Nat.reduceLT, Nat.reduceEqDiff, Nat.reduceBEq, Int.reduceLE, Int.reduceLT, Int.reduceEq, Int.reduceNeg, Int.reduceAdd, Int.reduceSub, Int.reduceMul, Int.reduceToNat] at k2
          simp (maxSteps := 1000000) (disch := first | omega | (simp only [List.length_cons, List.length_nil, List.length_append, List.length_map, List.length_take, List.length_drop]; omega)) only [go_sem, ↓reduceIte, Nat.reduceSub, Nat.reduceAdd, Nat.reduceMul, Nat.reduceLeDiff, Nat.reduceLT, Nat.reduceEqDiff, Nat.reduceBEq, Int.reduceLE, Int.reduceLT, Int.reduceEq, Int.reduceNeg, Int.reduceAdd, Int.reduceSub, Int.reduceMul, Int.reduceToNat, i_law05_AvlHolds_b0, hd, ho, h1, h2, k2, e1, eP_emp]
        · obtain ⟨b', hv', k1, k2⟩ := hold_loop0 l hl n (i + 1) (B.n.take d.k) [] (by omega) (hk0.take d.k)
          refine ⟨_, b', hv', k1, .inl rfl, ?_⟩
          have h2 := avl_Delete_good .n d.k n_good (by omega) (by omega) (by omega)
          have hx : (B.n.get d.k).isSome = false := rfl
          rw [hx] at h2
          have hp : B.n.take d.k = .n := rfl
          rw [hp] at h2 k2
          simp only [avB_n] at h2
          simp only [Bt_n, eP_nil] at k2
          generalize b'.t = t' at *
          simp only [oD, ho] at h1
          try simp (maxSteps := 1000000) (disch := first | omega | (simp only [List.length_cons, List.length_nil, List.length_append, List.length_map, List.length_take, List.length_drop]; omega)) only [go_sem, ↓reduceIte, Nat.reduceSub, Nat.reduceAdd, Nat.reduceMul, Nat.reduceLeDiff, Nat.reduceLT, Nat.reduceEqDiff, Nat.reduceBEq, Int.reduceLE, Int.reduceLT, Int.reduceEq, Int.reduceNeg, Int.reduceAdd, Int.reduceSub, Int.reduceMul, Int.reduceToNat] at h1
          try simp (maxSteps := 1000000) (disch := first | omega | (simp only [List.length_cons, List.length_nil, List.length_append, List.length_map, List.length_take, List.length_drop]; omega)) only [go_sem, ↓reduceIte, Nat.reduceSub, Nat.reduceAdd, Nat.reduceMul, Nat.reduceLeDiff, Nat.reduceLT, Nat.reduceEqDiff, Nat.reduceBEq, Int.reduceLE, Int.reduceLT, Int.reduceEq, Int.reduceNeg, Int.reduceAdd, Int.reduceSub, Int.reduceMul, Int.reduceToNat, oT] at k2
          have eT0 : eT [] = [] := rfl
          rw [eT0] at k2
          simp (maxSteps := 1000000) (disch := first | omega | (simp only [List.length_cons, List.length_nil, List.length_append, List.length_map, List.length_take, List.length_drop]; omega)) only [go_sem, ↓reduceIte, Nat.reduceSub, Nat.reduceAdd, Nat.reduceMul, Nat.reduceLeDiff, Nat.reduceLT, Nat.reduceEqDiff, Nat.reduceBEq, Int.reduceLE, Int.reduceLT, Int.reduceEq, Int.reduceNeg, Int.reduceAdd, Int.reduceSub, Int.reduceMul, Int.reduceToNat, i_law05_AvlHolds_b0, hd, ho, h1, h2, k2]
theorem hold_loop2 (b : B) (hv : List KV) (hk : Kept b hv 40) : ∀ (n j : Nat), n + j = hv.length → L_law05_AvlHolds_2 (s_law05_AvlHolds_K2 (bo true) (.ptr 0 0) (.sl true (eP hv)) (i64 j) [some (oT b.t), none, none, none, none]) = some (.exit 4, s_law05_AvlHolds_J4 (bo true) [none, none, none, none, none])
  | 0, j, h => by
    obtain ⟨s1, s2, s3⟩ := hk.size (by omega)
    rw [L_law05_AvlHolds_2_eq]
    generalize b.t = t at *
    simp (maxSteps := 1000000) (disch := first | omega | (simp only [List.length_cons, List.length_nil, List.length_append, List.length_map, List.length_take, List.length_drop]; omega)) only [go_sem, ↓reduceIte, Nat.reduceSub, Nat.reduceAdd, Nat.reduceMul, Nat.reduceLeDiff, Nat.reduceLT, Nat.reduceEqDiff, Nat.reduceBEq, Int.reduceLE, Int.reduceLT, Int.reduceEq, Int.reduceNeg, Int.reduceAdd, Int.reduceSub, Int.reduceMul, Int.reduceToNat, i_law05_AvlHolds_b2]
  | n + 1, j, h => by
    obtain ⟨s1, s2, s3⟩ := hk.size (by omega)
    have ih := hold_loop2 b hv hk n (j + 1) (by omega)
    have hm : hv.getD j ([], []) ∈ hv := getD_mem' (by omega)
    have hmb := hk.perm.mem_iff.2 hm
    have hok := (ok_list b).1 hk.good.ok _ hmb
    have hg := getP_mem hk.good.srt hmb
    rw [← get_list b _ hk.good.srt] at hg
    have h1 := avl_Get_good b (hv.getD j ([], [])).1 hk.good (by omega) (by omega) hok.1
    rw [hg] at h1
    simp only [Option.getD_some, Option.isSome_some] at h1
    rw [L_law05_AvlHolds_2_eq]
    generalize hd : hv.getD j ([], []) = x at *
    have hx : (x.2 == x.2) = true := beq_self_eq_true _
    simp only [avB] at *
    generalize b.t = t at *
    try simp (maxSteps := 1000000) (disch := first | omega | (simp only [List.length_cons, List.length_nil, List.length_append, List.length_map, List.length_take, List.length_drop]; omega)) only [go_sem, ↓reduceIte, Nat.reduceSub, Nat.reduceAdd, Nat.reduceMul, Nat.reduceLeDiff, Nat.reduceLT, Nat.reduceEqDiff, Nat.reduceBEq, Int.reduceLE, Int.reduceLT, Int.reduceEq, Int.reduceNeg, Int.reduceAdd, Int.reduceSub, Int.reduceMul, Int.reduceToNat] at ih
    simp (maxSteps := 1000000) (disch := first | omega | (simp only [List.length_cons, List.length_nil, List.length_append, List.length_map, List.length_take, List.length_drop]; omega)) only [go_sem, ↓reduceIte, Nat.reduceSub, Nat.reduceAdd, Nat.reduceMul, Nat.reduceLeDiff, Nat.reduceLT, Nat.reduceEqDiff, Nat.reduceBEq, Int.reduceLE, Int.reduceLT, Int.reduceEq, Int.reduceNeg, Int.reduceAdd, Int.reduceSub, Int.reduceMul, Int.reduceToNat, i_law05_AvlHolds_b2, hd, h1, hx, ih]
theorem law_AvlHolds (l : List Deed) (hl : l.length ≤ 1048576) : ∃ outs, Ev tab G0 n_law05_AvlHolds [.sl true (eD l)] [] = some ([bo true], outs) := by
  have h0 := up05_ev
  obtain ⟨o, b, hv, hk, hor, h1⟩ := hold_loopZ l hl (min l.length 40) 0 (by omega)
  obtain ⟨s1, s2, s3⟩ := hk.size (by omega)
  have e0 : ((0 : Nat) : Int) = 0 := rfl
  rcases hor with rfl | ⟨rfl, rfl, rfl⟩
  · have h2 := hold_loop2 b hv hk hv.length 0 (by omega)
    have h3 := avl_Is_ev b.t (by omega)
    rw [isA_of b hk.good (by omega)] at h3
    have h4 := ref04_List_ev b.t (Bt_formed b hk.good.ok) (by omega)
    have hlen : b.t.list.length = hv.length := by rw [Bt_list_len, hk.perm.length_eq]
    rw [e0] at h1 h2
    generalize b.t = t at *
    try simp (maxSteps := 1000000) (disch := first | omega | (simp only [List.length_cons, List.length_nil, List.length_append, List.length_map, List.length_take, List.length_drop]; omega)) only [go_sem, ↓reduceIte, Nat.reduceSub, Nat.reduceAdd, Nat.reduceMul, Nat.reduceLeDiff, Nat.reduceLT, Nat.reduceEqDiff, Nat.reduceBEq, Int.reduceLE, Int.reduceLT, Int.reduceEq, Int.reduceNeg, Int.reduceAdd, Int.reduceSub, Int.reduceMul, Int.reduceToNat] at h1
    refine ⟨[], Ev_run t_law05_AvlHolds rfl rfl ?_⟩
    simp (maxSteps := 1000000) (disch := first | omega | (simp only [List.length_cons, List.length_nil, List.length_append, List.length_map, List.length_take, List.length_drop]; omega)) only [go_sem, ↓reduceIte, Nat.reduceSub, Nat.reduceAdd, Nat.reduceMul, Nat.reduceLeDiff, Nat.reduceLT, Nat.reduceEqDiff, Nat.reduceBEq, Int.reduceLE, Int.reduceLT, Int.reduceEq, Int.reduceNeg, Int.reduceAdd, Int.reduceSub, Int.reduceMul, Int.reduceToNat, i_law05_AvlHolds, h0, h1, h2, h3, h4, hlen]
  · have s1' : T.no.size ≤ 110601 := s1
    have h3 := avl_Is_ev .no (by omega)
    have h3' := isA_of .n hk.good (by simp [B.depth])
    rw [Bt_n] at h3'
    rw [h3'] at h3
    have h4 := ref04_List_ev .no (Bt_formed .n hk.good.ok) (by omega)
    have hlen : T.list .no = [] := rfl
    have eT0 : eT [] = [] := rfl
    rw [hlen] at h4
    rw [eT0] at h4
    have eN : avT T.no = .agg [i64 0, .sl true [], .sl true [], .sl true [], .sl true []] := rfl
    rw [eN] at h3 h4
    rw [e0] at h1
    rw [eP_nil] at h1
    try simp (maxSteps := 1000000) (disch := first | omega | (simp only [List.length_cons, List.length_nil, List.length_append, List.length_map, List.length_take, List.length_drop]; omega)) only [go_sem, ↓reduceIte, Nat.reduceSub, Nat.reduceAdd, Nat.reduceMul, Nat.reduceLeDiff, Nat.reduceLT, Nat.reduceEqDiff, Nat.reduceBEq, Int.reduceLE, Int.reduceLT, Int.reduceEq, Int.reduceNeg, Int.reduceAdd, Int.reduceSub, Int.reduceMul, Int.reduceToNat] at h1
    refine ⟨[], Ev_run t_law05_AvlHolds rfl rfl ?_⟩
    have h5 : L_law05_AvlHolds_2 (s_law05_AvlHolds_K2 (bo true) (.ptr 0 0) (.sl true []) (i64 0) [some oZ5, none, none, none, none]) = some (.exit 4, s_law05_AvlHolds_J4 (bo true) [none, none, none, none, none]) := by
      rw [L_law05_AvlHolds_2_eq]
      simp (maxSteps := 1000000) (disch := first | omega | (simp only [List.length_cons, List.length_nil, List.length_append, List.length_map, List.length_take, List.length_drop]; omega)) only [go_sem, ↓reduceIte, Nat.reduceSub, Nat.reduceAdd, Nat.reduceMul, Nat.reduceLeDiff, Nat.reduceLT, Nat.reduceEqDiff, Nat.reduceBEq, Int.reduceLE, Int.reduceLT, Int.reduceEq, Int.reduceNeg, Int.reduceAdd, Int.reduceSub, Int.reduceMul, Int.reduceToNat, i_law05_AvlHolds_b2]
    simp (maxSteps := 1000000) (disch := first | omega | (simp only [List.length_cons, List.length_nil, List.length_append, List.length_map, List.length_take, List.length_drop]; omega)) only [go_sem, ↓reduceIte, Nat.reduceSub, Nat.reduceAdd, Nat.reduceMul, Nat.reduceLeDiff, Nat.reduceLT, Nat.reduceEqDiff, Nat.reduceBEq, Int.reduceLE, Int.reduceLT, Int.reduceEq, Int.reduceNeg, Int.reduceAdd, Int.reduceSub, Int.reduceMul, Int.reduceToNat, i_law05_AvlHolds, h0, h1, h3, h4, h5]

end Go.Proofs.Ytebiajdkgpcidaa
