/-
  Spans that lie one behind the other.
-/
import Derived.Test.YtebiajdkgpcidaaLGrown
import Derived.Test.YtebiajdkgpcidaaLAvl8
set_option linter.unusedSimpArgs false
set_option linter.unusedVariables false
set_option maxRecDepth 200000
set_option maxHeartbeats 4000000
namespace Go.Proofs.Ytebiajdkgpcidaa
open Go.Ev

theorem rngL_B (f g : List UInt8) (o : Bool) (b : B) : rngL f g o b.t.list = b.list.filter fun x => inS f g o x.1 := by
  unfold rngL
  rw [← Bt_list b, List.filter_map]
  rfl
theorem split_filter {a : List UInt8} {p1 p2 p3 : KV → Bool} (h3 : ∀ x, p3 x = (p1 x || p2 x)) (h1 : ∀ x, p1 x = true → cmp x.1 a < 0) (h2 : ∀ x, p2 x = true → 0 ≤ cmp x.1 a) : ∀ P : List KV, srtP P → P.filter p1 ++ P.filter p2 = P.filter p3
  | [], _ => rfl
  | x :: P, h => by
    unfold srtP at h
    rw [List.pairwise_cons] at h
    have ih := split_filter h3 h1 h2 P h.2
    rw [List.filter_cons, List.filter_cons, List.filter_cons, h3]
    cases c1 : p1 x
    · cases c2 : p2 x
      · simpa using ih
      · have e : P.filter p1 = [] := by
          rw [List.filter_eq_nil_iff]
          intro y hy hp
          have a1 := h1 y hp
          have a2 := h2 x c2
          have a3 : cmp x.1 y.1 < 0 := h.1 y hy
          have := cmp_trans x.1 y.1 a (by omega) (by omega)
          omega
        rw [e] at ih ⊢
        simpa using ih
    · have c2 : p2 x = false := by
        cases c2 : p2 x
        · rfl
        · have a1 := h1 x c1
          have a2 := h2 x c2
          omega
      rw [c2]
      simpa using ih
theorem one_filter (k : List UInt8) : ∀ P : List KV, srtP P → P.filter (fun x => x.1 == k) = match getP P k with | none => [] | some v => [(k, v)]
  | [], _ => rfl
  | x :: P, h => by
    unfold srtP at h
    rw [List.pairwise_cons] at h
    have ih := one_filter k P h.2
    unfold getP at *
    rw [List.filter_cons, List.find?_cons]
    by_cases c : cmp x.1 k = 0
    · have hk := cmp_eq x.1 k c
      have e : P.filter (fun x => x.1 == k) = [] := by
        rw [List.filter_eq_nil_iff]
        intro y hy hp
        have a3 : cmp x.1 y.1 < 0 := h.1 y hy
        rw [eq_cmp] at hp
        have := of_decide_eq_true hp
        have := cmp_eq y.1 k this
        rw [this, ← hk, cmp_self] at a3
        omega
      rw [e, decide_eq_true c, eq_cmp, decide_eq_true c, ← hk]
      rfl
    · rw [decide_eq_false c, eq_cmp, decide_eq_false c]
      exact ih
theorem in_point (k q : List UInt8) : inS k (k ++ [0]) false q = (q == k) := by
  have n2 := cmp_next q k
  have := cmp_range q k
  rw [eq_cmp]
  simp only [inS, n2, Bool.false_or, ← Bool.decide_and]
  exact decide_eq_decide.mpr (by omega)
theorem rng_point (b : B) (hs : srtP b.list) (k : List UInt8) : rngL k (k ++ [0]) false b.t.list = match b.get k with | none => [] | some v => [(k, v)] := by
  rw [rngL_B, get_list b k hs, ← one_filter k b.list hs]
  congr 1
  funext x
  exact in_point k x.1
theorem rng_split (b : B) (hs : srtP b.list) (f g a : List UInt8) (o : Bool) (h1 : cmp f a ≤ 0) (h2 : o = true ∨ cmp a g ≤ 0) : rngL f a false b.t.list ++ rngL a g o b.t.list = rngL f g o b.t.list := by
  rw [rngL_B, rngL_B, rngL_B]
  refine split_filter (a := a) (fun x => ?_) (fun x hx => ?_) (fun x hx => ?_) b.list hs
  · have s1 := cmp_swap x.1 f
    have s2 := cmp_swap x.1 a
    simp only [inS, Bool.false_or]
    by_cases c2 : 0 ≤ cmp x.1 a
    · have t1 := (cmp_trans f a x.1 h1 (by omega)).1
      have c1 : 0 ≤ cmp x.1 f := by omega
      have c3 : ¬ cmp x.1 a < 0 := by omega
      simp [c1, c2, c3]
    · have c3 : cmp x.1 a < 0 := by omega
      rcases h2 with rfl | h2
      · simp [c2, c3]
      · have t2 := cmp_trans x.1 a g (by omega) h2
        have c4 : cmp x.1 g < 0 := by
          rcases Int.lt_or_eq_of_le t2.1 with h | h
          · exact h
          · have := (t2.2 h).1
            omega
        simp [c2, c3, c4]
  · simp only [inS, Bool.false_or, Bool.and_eq_true, decide_eq_true_eq] at hx
    exact hx.2
  · simp only [inS, Bool.and_eq_true, decide_eq_true_eq] at hx
    exact hx.1
theorem leq_cmp (a b : List UInt8) : (Op.bytesLess a b || a == b) = decide (cmp a b ≤ 0) := by
  rw [less_cmp, eq_cmp, ← Bool.decide_or]
  exact decide_eq_decide.mpr (by omega)
theorem law_ScanParts (l : List KV) (f g : List UInt8) (o : Bool) (k : List UInt8) (hl : l.length ≤ 1048576) (hk : k.length ≤ 1048576) : ∃ outs, Ev tab G0 n_law06_ScanParts [.sl true (eP l), avSpan f g o, .sl true (eB k)] [] = some ([bo true], outs) := by
  have h0 := up06_ev
  obtain ⟨b, hv, hkp, h1⟩ := ref05_Grown_ev l hl
  obtain ⟨s1, s2, s3⟩ := hkp.size (by omega)
  have hi := isA_of b hkp.good (by omega)
  have h2 := scan_Range_ev b.t (by omega) f k false hi
  have h3 := scan_Range_ev b.t (by omega) k g o hi
  have h4 := scan_Range_ev b.t (by omega) f g o hi
  have h5 := scan_Range_ev b.t (by omega) k (k ++ [0]) false hi
  have h6 := scan_Point_ev k hk
  have h7 := ref05_Get_ev b k hkp.good.ok hkp.good.srt (by omega)
  have sp := rng_split b hkp.good.srt f g k o
  rw [rng_point b hkp.good.srt k] at h5
  have hfm := chk_formed (isA_chk hi)
  have hsz := list_size b.t hfm
  have z1 := rngL_len f k false b.t.list
  have z2 := rngL_len k g o b.t.list
  have z3 := rngL_len f g o b.t.list
  simp only [avB] at *
  generalize rngL f k false b.t.list = r1 at *
  generalize rngL k g o b.t.list = r2 at *
  generalize rngL f g o b.t.list = r3 at *
  have e12 := eP_app (a := r1) (b := r2)
  have h8 := ref06_Same_ev (r1 ++ r2) r3 (by rw [List.length_append]; omega) (by omega)
  have l1 := leq_cmp f k
  have l2 := leq_cmp k g
  generalize b.t = t at *
  have hln : (r1 ++ r2).length = r1.length + r2.length := List.length_append
  have hin : (decide (cmp f k ≤ 0) && (o || decide (cmp k g ≤ 0))) = true → sameP (r1 ++ r2) r3 = true := fun h => by
    simp only [Bool.and_eq_true, decide_eq_true_eq, Bool.or_eq_true] at h
    rw [sp h.1 h.2, sameP_self]
  generalize sameP (r1 ++ r2) r3 = z at *
  generalize r1 ++ r2 = r12 at *
  have q1 : (Op.bytesLess f k = true ∨ f = k) ↔ cmp f k ≤ 0 := by
    rw [← decide_eq_true_iff (p := cmp f k ≤ 0), ← l1]
    simp
  refine ⟨[], Ev_run t_law06_ScanParts rfl rfl ?_⟩
  cases hg : b.get k with
  | none =>
    rw [hg] at h5 h7
    simp only [Option.getD_none, Option.isSome_none] at h5 h7
    rw [eP_nil] at h5
    simp (maxSteps := 1000000) (disch := first | omega | (simp only [List.length_cons, List.length_nil, List.length_append, List.length_map, List.length_take, List.length_drop]; omega)) only [go_sem, ↓reduceIte, Nat.reduceSub, Nat.reduceAdd, Nat.reduceMul, Nat.reduceLeDiff, Nat.reduceLT, Nat.reduceEqDiff, Nat.reduceBEq, Int.reduceLE, Int.reduceLT, Int.reduceEq, Int.reduceNeg, Int.reduceAdd, Int.reduceSub, Int.reduceMul, Int.reduceToNat, i_law06_ScanParts, h0, h1, h2, h3, h4, h5, h6, h7, e12, h8]
    simp only [l2]
    by_cases a1 : cmp f k ≤ 0
    · rw [if_pos (q1.2 a1)]
      cases o
      · by_cases a2 : cmp k g ≤ 0
        · rw [hin (by simp [a1, a2])]
          simp
        · simp [a2]
      · rw [hin (by simp [a1])]
        simp
    · rw [if_neg (fun h => a1 (q1.1 h))]
  | some v =>
    rw [hg] at h5 h7
    simp only [Option.getD_some, Option.isSome_some] at h5 h7
    have hv1 : (v == v) = true := beq_self_eq_true _
    simp (maxSteps := 1000000) (disch := first | omega | (simp only [List.length_cons, List.length_nil, List.length_append, List.length_map, List.length_take, List.length_drop]; omega)) only [go_sem, ↓reduceIte, Nat.reduceSub, Nat.reduceAdd, Nat.reduceMul, Nat.reduceLeDiff, Nat.reduceLT, Nat.reduceEqDiff, Nat.reduceBEq, Int.reduceLE, Int.reduceLT, Int.reduceEq, Int.reduceNeg, Int.reduceAdd, Int.reduceSub, Int.reduceMul, Int.reduceToNat, i_law06_ScanParts, h0, h1, h2, h3, h4, h5, h6, h7, e12, h8]
    simp only [l2]
    by_cases a1 : cmp f k ≤ 0
    · rw [if_pos (q1.2 a1)]
      cases o
      · by_cases a2 : cmp k g ≤ 0
        · rw [hin (by simp [a1, a2])]
          simp
        · simp [a2]
      · rw [hin (by simp [a1])]
        simp
    · rw [if_neg (fun h => a1 (q1.1 h))]

end Go.Proofs.Ytebiajdkgpcidaa
