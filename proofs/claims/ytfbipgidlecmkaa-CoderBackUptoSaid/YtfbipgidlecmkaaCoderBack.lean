/-
  CoderBack: the law, by the evaluator.
-/
import Derived.Test.YtfbipgidlecmkaaLBack
import Derived.Test.YtfbipgidlecmkaaLRow
set_option linter.unusedSimpArgs false
set_option linter.unusedVariables false
set_option maxRecDepth 200000
set_option maxHeartbeats 4000000
namespace Go.Proofs.Ytfbipgidlecmkaa
open Go.Ev

theorem ne_len {l : List UInt8} (h : 1 ≤ l.length) : l ≠ [] := by rintro rfl; simp at h
theorem back_loop0 (l : List Int) (ml : List (List UInt8)) (hl : ∀ v ∈ l, 0 ≤ v ∧ v < 18446744073709551616) (hll : l.length ≤ 1048576) : ∀ (n : Nat) (i : Int) (bs : List UInt8), 0 ≤ i → i + n = (l.take 50).length → bs.length + 9 * n ≤ 450 →
    L_law02_CoderBack_0 (s_law02_CoderBack_K0 (.sl true (eI .u64 l)) (.sl true (eBs ml)) (rwA 1 bs) (i64 i) [none, rwO bs, none, none]) = some (.exit 0, s_law02_CoderBack_J0 (.sl true (eI .u64 l)) (.sl true (eBs ml)) (rwA 1 (bs ++ ((l.take 50).drop i.toNat).flatMap num)) [none, rwO (bs ++ ((l.take 50).drop i.toNat).flatMap num), none, none])
  | 0, i, bs, h0, h1, h2 => by
    have e : (l.take 50).drop i.toNat = [] := List.drop_of_length_le (by omega)
    simp only [List.length_take] at h1
    rw [L_law02_CoderBack_0_eq, e]
    cases bs with
    | nil =>
      simp (maxSteps := 1000000) (disch := first | omega | (simp only [List.length_cons, List.length_nil, List.length_append, List.length_map, List.length_take, List.length_drop]; omega)) only [go_sem, ↓reduceIte, Nat.reduceSub, Nat.reduceAdd, Nat.reduceMul, Nat.reduceLeDiff, Nat.reduceLT, Nat.reduceEqDiff, Nat.reduceBEq, Int.reduceLE, Int.reduceLT, Int.reduceEq, Int.reduceNeg, Int.reduceAdd, Int.reduceSub, Int.reduceMul, Int.reduceToNat, i_law02_CoderBack_b0, List.flatMap_nil]
      split <;> rfl
    | cons b bs =>
      simp (maxSteps := 1000000) (disch := first | omega | (simp only [List.length_cons, List.length_nil, List.length_append, List.length_map, List.length_take, List.length_drop]; omega)) only [go_sem, ↓reduceIte, Nat.reduceSub, Nat.reduceAdd, Nat.reduceMul, Nat.reduceLeDiff, Nat.reduceLT, Nat.reduceEqDiff, Nat.reduceBEq, Int.reduceLE, Int.reduceLT, Int.reduceEq, Int.reduceNeg, Int.reduceAdd, Int.reduceSub, Int.reduceMul, Int.reduceToNat, i_law02_CoderBack_b0, List.flatMap_nil, rwA, rwO]
      split <;> rfl
  | n + 1, i, bs, h0, h1, h2 => by
    have e := drop_step (l := l.take 50) (d := 0) (i := i.toNat) (by omega)
    simp only [List.length_take] at h1
    rw [getD_take (by omega)] at e
    have hv := hl (l.getD i.toNat 0) (getD_mem' (by omega))
    generalize hd : l.getD i.toNat 0 = v at *
    have k := coder_Number_ev v hv
    have kl := num_len v
    have ih := back_loop0 l ml hl hll n (i + 1) (bs ++ num v) (by omega) (by simp only [List.length_take]; omega) (by simp; omega)
    have e1 : (i + 1).toNat = i.toNat + 1 := by omega
    rw [rwA_ne (ne_len (by simp; omega)), rwO_ne (ne_len (by simp; omega)), e1] at ih
    rw [L_law02_CoderBack_0_eq, e, List.flatMap_cons]
    cases bs with
    | nil =>
      have ke : (eB (num v)).isEmpty = false := by
        cases hn : num v with
        | nil => rw [hn] at kl; simp at kl
        | cons b x => rfl
      try simp (maxSteps := 1000000) (disch := first | omega | (simp only [List.length_cons, List.length_nil, List.length_append, List.length_map, List.length_take, List.length_drop]; omega)) only [go_sem, ↓reduceIte, Nat.reduceSub, Nat.reduceAdd, Nat.reduceMul, Nat.reduceLeDiff, Nat.reduceLT, Nat.reduceEqDiff, Nat.reduceBEq, Int.reduceLE, Int.reduceLT, Int.reduceEq, Int.reduceNeg, Int.reduceAdd, Int.reduceSub, Int.reduceMul, Int.reduceToNat] at ih
      simp (maxSteps := 1000000) (disch := first | omega | (simp only [List.length_cons, List.length_nil, List.length_append, List.length_map, List.length_take, List.length_drop]; omega)) only [go_sem, ↓reduceIte, Nat.reduceSub, Nat.reduceAdd, Nat.reduceMul, Nat.reduceLeDiff, Nat.reduceLT, Nat.reduceEqDiff, Nat.reduceBEq, Int.reduceLE, Int.reduceLT, Int.reduceEq, Int.reduceNeg, Int.reduceAdd, Int.reduceSub, Int.reduceMul, Int.reduceToNat, i_law02_CoderBack_b0, hd, k, ih, ke]
    | cons b bs =>
      simp only [List.length_cons] at h2
      try simp (maxSteps := 1000000) (disch := first | omega | (simp only [List.length_cons, List.length_nil, List.length_append, List.length_map, List.length_take, List.length_drop]; omega)) only [go_sem, ↓reduceIte, Nat.reduceSub, Nat.reduceAdd, Nat.reduceMul, Nat.reduceLeDiff, Nat.reduceLT, Nat.reduceEqDiff, Nat.reduceBEq, Int.reduceLE, Int.reduceLT, Int.reduceEq, Int.reduceNeg, Int.reduceAdd, Int.reduceSub, Int.reduceMul, Int.reduceToNat] at ih
      simp (maxSteps := 1000000) (disch := first | omega | (simp only [List.length_cons, List.length_nil, List.length_append, List.length_map, List.length_take, List.length_drop]; omega)) only [go_sem, ↓reduceIte, Nat.reduceSub, Nat.reduceAdd, Nat.reduceMul, Nat.reduceLeDiff, Nat.reduceLT, Nat.reduceEqDiff, Nat.reduceBEq, Int.reduceLE, Int.reduceLT, Int.reduceEq, Int.reduceNeg, Int.reduceAdd, Int.reduceSub, Int.reduceMul, Int.reduceToNat, i_law02_CoderBack_b0, hd, k, ih, rwA, rwO]

theorem back_loop1 (l : List Int) (ml : List (List UInt8)) (hml : ml.length ≤ 1048576) (hms : ∀ b ∈ ml, b.length ≤ 1048576) : ∀ (n : Nat) (i : Int) (bs : List UInt8), 0 ≤ i → i + n = (ml.take 50).length → bs.length + 1010 * n ≤ 60000 →
    (L_law02_CoderBack_1 (s_law02_CoderBack_K1 (.sl true (eI .u64 l)) (.sl true (eBs ml)) (rwA 1 bs) (i64 i) [none, rwO bs, none, none]) = some (.exit 2, s_law02_CoderBack_J2 (.sl true (eI .u64 l)) (.sl true (eBs ml)) (rwA 1 (bs ++ ((ml.take 50).drop i.toNat).flatMap byts)) [none, rwO (bs ++ ((ml.take 50).drop i.toNat).flatMap byts), none, none]) ∧ ∀ b ∈ (ml.take 50).drop i.toNat, b.length ≤ 1000) ∨
    ∃ st outs, L_law02_CoderBack_1 (s_law02_CoderBack_K1 (.sl true (eI .u64 l)) (.sl true (eBs ml)) (rwA 1 bs) (i64 i) [none, rwO bs, none, none]) = some (.ret, st) ∧ finish i_law02_CoderBack 0 st = some ([bo true], outs)
  | 0, i, bs, h0, h1, h2 => by
    have e : (ml.take 50).drop i.toNat = [] := List.drop_of_length_le (by omega)
    simp only [List.length_take] at h1
    refine .inl ⟨?_, by rw [e]; simp⟩
    rw [L_law02_CoderBack_1_eq, e]
    cases bs with
    | nil =>
      simp (maxSteps := 1000000) (disch := first | omega | (simp only [List.length_cons, List.length_nil, List.length_append, List.length_map, List.length_take, List.length_drop]; omega)) only [go_sem, ↓reduceIte, Nat.reduceSub, Nat.reduceAdd, Nat.reduceMul, Nat.reduceLeDiff, Nat.reduceLT, Nat.reduceEqDiff, Nat.reduceBEq, Int.reduceLE, Int.reduceLT, Int.reduceEq, Int.reduceNeg, Int.reduceAdd, Int.reduceSub, Int.reduceMul, Int.reduceToNat, i_law02_CoderBack_b1, List.flatMap_nil]
      split <;> rfl
    | cons b bs =>
      simp (maxSteps := 1000000) (disch := first | omega | (simp only [List.length_cons, List.length_nil, List.length_append, List.length_map, List.length_take, List.length_drop]; omega)) only [go_sem, ↓reduceIte, Nat.reduceSub, Nat.reduceAdd, Nat.reduceMul, Nat.reduceLeDiff, Nat.reduceLT, Nat.reduceEqDiff, Nat.reduceBEq, Int.reduceLE, Int.reduceLT, Int.reduceEq, Int.reduceNeg, Int.reduceAdd, Int.reduceSub, Int.reduceMul, Int.reduceToNat, i_law02_CoderBack_b1, List.flatMap_nil, rwA, rwO]
      split <;> rfl
  | n + 1, i, bs, h0, h1, h2 => by
    have e := drop_step (l := ml.take 50) (d := []) (i := i.toNat) (by omega)
    simp only [List.length_take] at h1
    rw [getD_take (by omega)] at e
    have hv := hms (ml.getD i.toNat []) (getD_mem' (by omega))
    generalize hd : ml.getD i.toNat [] = v at *
    by_cases hv2 : 1000 < v.length
    · refine .inr ?_
      rw [L_law02_CoderBack_1_eq]
      cases bs with
      | nil =>
        refine ⟨_, _, by simp (maxSteps := 1000000) (disch := first | omega | (simp only [List.length_cons, List.length_nil, List.length_append, List.length_map, List.length_take, List.length_drop]; omega)) only [go_sem, ↓reduceIte, Nat.reduceSub, Nat.reduceAdd, Nat.reduceMul, Nat.reduceLeDiff, Nat.reduceLT, Nat.reduceEqDiff, Nat.reduceBEq, Int.reduceLE, Int.reduceLT, Int.reduceEq, Int.reduceNeg, Int.reduceAdd, Int.reduceSub, Int.reduceMul, Int.reduceToNat, i_law02_CoderBack_b1, hd]; rfl, by simp (maxSteps := 1000000) (disch := first | omega | (simp only [List.length_cons, List.length_nil, List.length_append, List.length_map, List.length_take, List.length_drop]; omega)) only [go_sem, ↓reduceIte, Nat.reduceSub, Nat.reduceAdd, Nat.reduceMul, Nat.reduceLeDiff, Nat.reduceLT, Nat.reduceEqDiff, Nat.reduceBEq, Int.reduceLE, Int.reduceLT, Int.reduceEq, Int.reduceNeg, Int.reduceAdd, Int.reduceSub, Int.reduceMul, Int.reduceToNat, i_law02_CoderBack]; rfl⟩
      | cons b bs =>
        refine ⟨_, _, by simp (maxSteps := 1000000) (disch := first | omega | (simp only [List.length_cons, List.length_nil, List.length_append, List.length_map, List.length_take, List.length_drop]; omega)) only [go_sem, ↓reduceIte, Nat.reduceSub, Nat.reduceAdd, Nat.reduceMul, Nat.reduceLeDiff, Nat.reduceLT, Nat.reduceEqDiff, Nat.reduceBEq, Int.reduceLE, Int.reduceLT, Int.reduceEq, Int.reduceNeg, Int.reduceAdd, Int.reduceSub, Int.reduceMul, Int.reduceToNat, i_law02_CoderBack_b1, hd, rwA, rwO]; rfl, by simp (maxSteps := 1000000) (disch := first | omega | (simp only [List.length_cons, List.length_nil, List.length_append, List.length_map, List.length_take, List.length_drop]; omega)) only [go_sem, ↓reduceIte, Nat.reduceSub, Nat.reduceAdd, Nat.reduceMul, Nat.reduceLeDiff, Nat.reduceLT, Nat.reduceEqDiff, Nat.reduceBEq, Int.reduceLE, Int.reduceLT, Int.reduceEq, Int.reduceNeg, Int.reduceAdd, Int.reduceSub, Int.reduceMul, Int.reduceToNat, i_law02_CoderBack]; rfl⟩
    · have k := coder_Bytes_ev v (by omega)
      have kl := byts_len v
      have kn := num_len v.length
      have kl2 : 1 ≤ (byts v).length := by simp [byts]; omega
      have ih := back_loop1 l ml hml hms n (i + 1) (bs ++ byts v) (by omega) (by simp only [List.length_take]; omega) (by simp; omega)
      have e1 : (i + 1).toNat = i.toNat + 1 := by omega
      rw [rwA_ne (l := bs ++ byts v) (ne_len (by simp; omega)), rwO_ne (l := bs ++ byts v) (ne_len (by simp; omega)), e1] at ih
      have step : L_law02_CoderBack_1 (s_law02_CoderBack_K1 (.sl true (eI .u64 l)) (.sl true (eBs ml)) (rwA 1 bs) (i64 i) [none, rwO bs, none, none]) = L_law02_CoderBack_1 (s_law02_CoderBack_K1 (.sl true (eI .u64 l)) (.sl true (eBs ml)) (.row 1 (bs ++ byts v).length) (i64 (i + 1)) [none, some (.row ty_uint8 1 true false (eB (bs ++ byts v))), none, none]) := by
        rw [L_law02_CoderBack_1_eq]
        cases bs with
        | nil =>
          have ke : (eB (byts v)).isEmpty = false := by
            cases hn : byts v with
            | nil => rw [hn] at kl2; simp at kl2
            | cons b x => rfl
          simp (maxSteps := 1000000) (disch := first | omega | (simp only [List.length_cons, List.length_nil, List.length_append, List.length_map, List.length_take, List.length_drop]; omega)) only [go_sem, ↓reduceIte, Nat.reduceSub, Nat.reduceAdd, Nat.reduceMul, Nat.reduceLeDiff, Nat.reduceLT, Nat.reduceEqDiff, Nat.reduceBEq, Int.reduceLE, Int.reduceLT, Int.reduceEq, Int.reduceNeg, Int.reduceAdd, Int.reduceSub, Int.reduceMul, Int.reduceToNat, i_law02_CoderBack_b1, hd, k, ke]
        | cons b bs =>
          simp only [List.length_cons] at h2
          simp (maxSteps := 1000000) (disch := first | omega | (simp only [List.length_cons, List.length_nil, List.length_append, List.length_map, List.length_take, List.length_drop]; omega)) only [go_sem, ↓reduceIte, Nat.reduceSub, Nat.reduceAdd, Nat.reduceMul, Nat.reduceLeDiff, Nat.reduceLT, Nat.reduceEqDiff, Nat.reduceBEq, Int.reduceLE, Int.reduceLT, Int.reduceEq, Int.reduceNeg, Int.reduceAdd, Int.reduceSub, Int.reduceMul, Int.reduceToNat, i_law02_CoderBack_b1, hd, k, rwA, rwO]
      rw [step, e, List.flatMap_cons]
      rcases ih with ⟨ih, hb⟩ | ih
      · refine .inl ⟨by rw [ih, List.append_assoc], fun b hb2 => ?_⟩
        rcases List.mem_cons.1 hb2 with rfl | hb2
        · omega
        · exact hb b hb2
      · exact .inr ih
theorem back_loop2 (l : List Int) (ml : List (List UInt8)) (hl : ∀ v ∈ l, 0 ≤ v ∧ v < 18446744073709551616) (hll : l.length ≤ 1048576) (rest : List UInt8) : ∀ (n : Nat) (i : Int), 0 ≤ i → i + n = (l.take 50).length → (((l.take 50).drop i.toNat).flatMap num).length + rest.length ≤ 100000 →
    L_law02_CoderBack_2 (s_law02_CoderBack_K2 (.sl true (eI .u64 l)) (.sl true (eBs ml)) (.ptr 2 0) (i64 i) [none, none, some (rO ⟨((l.take 50).drop i.toNat).flatMap num ++ rest, false⟩), none]) = some (.exit 4, s_law02_CoderBack_J4 (.sl true (eBs ml)) (.ptr 2 0) [none, none, some (rO ⟨rest, false⟩), none])
  | 0, i, h0, h1, h2 => by
    have e : (l.take 50).drop i.toNat = [] := List.drop_of_length_le (by omega)
    simp only [List.length_take] at h1
    rw [L_law02_CoderBack_2_eq, e]
    simp (maxSteps := 1000000) (disch := first | omega | (simp only [List.length_cons, List.length_nil, List.length_append, List.length_map, List.length_take, List.length_drop]; omega)) only [go_sem, ↓reduceIte, Nat.reduceSub, Nat.reduceAdd, Nat.reduceMul, Nat.reduceLeDiff, Nat.reduceLT, Nat.reduceEqDiff, Nat.reduceBEq, Int.reduceLE, Int.reduceLT, Int.reduceEq, Int.reduceNeg, Int.reduceAdd, Int.reduceSub, Int.reduceMul, Int.reduceToNat, i_law02_CoderBack_b2, List.flatMap_nil]
    split <;> rfl
  | n + 1, i, h0, h1, h2 => by
    have e := drop_step (l := l.take 50) (d := 0) (i := i.toNat) (by omega)
    simp only [List.length_take] at h1
    rw [getD_take (by omega)] at e
    have hv := hl (l.getD i.toNat 0) (getD_mem' (by omega))
    generalize hd : l.getD i.toNat 0 = v at *
    rw [e, List.flatMap_cons] at h2 ⊢
    simp only [List.length_append] at h2
    have e1 : (i + 1).toNat = i.toNat + 1 := by omega
    have ih := back_loop2 l ml hl hll rest n (i + 1) (by omega) (by simp only [List.length_take]; omega) (by rw [e1]; omega)
    rw [e1] at ih
    have k := coder_ReaderNumber_ev ⟨num v ++ (((l.take 50).drop (i.toNat + 1)).flatMap num ++ rest), false⟩ (by simp only [List.length_append]; omega)
    rw [read_num v hv] at k
    rw [L_law02_CoderBack_2_eq, List.append_assoc]
    simp (maxSteps := 1000000) (disch := first | omega | (simp only [List.length_cons, List.length_nil, List.length_append, List.length_map, List.length_take, List.length_drop]; omega)) only [go_sem, ↓reduceIte, Nat.reduceSub, Nat.reduceAdd, Nat.reduceMul, Nat.reduceLeDiff, Nat.reduceLT, Nat.reduceEqDiff, Nat.reduceBEq, Int.reduceLE, Int.reduceLT, Int.reduceEq, Int.reduceNeg, Int.reduceAdd, Int.reduceSub, Int.reduceMul, Int.reduceToNat, i_law02_CoderBack_b2, hd, k, ih]
theorem back_loop3 (ml : List (List UInt8)) (hml : ml.length ≤ 1048576) : ∀ (n : Nat) (i : Int), 0 ≤ i → i + n = (ml.take 50).length → (∀ b ∈ (ml.take 50).drop i.toNat, b.length ≤ 1000) → (((ml.take 50).drop i.toNat).flatMap byts).length ≤ 100000 →
    L_law02_CoderBack_3 (s_law02_CoderBack_K3 (.sl true (eBs ml)) (.ptr 2 0) (i64 i) [none, none, some (rO ⟨((ml.take 50).drop i.toNat).flatMap byts, false⟩), none]) = some (.exit 6, s_law02_CoderBack_J6 (.ptr 2 0) [none, none, some (rO ⟨[], false⟩), none])
  | 0, i, h0, h1, hb, h2 => by
    have e : (ml.take 50).drop i.toNat = [] := List.drop_of_length_le (by omega)
    simp only [List.length_take] at h1
    rw [L_law02_CoderBack_3_eq, e]
    simp (maxSteps := 1000000) (disch := first | omega | (simp only [List.length_cons, List.length_nil, List.length_append, List.length_map, List.length_take, List.length_drop]; omega)) only [go_sem, ↓reduceIte, Nat.reduceSub, Nat.reduceAdd, Nat.reduceMul, Nat.reduceLeDiff, Nat.reduceLT, Nat.reduceEqDiff, Nat.reduceBEq, Int.reduceLE, Int.reduceLT, Int.reduceEq, Int.reduceNeg, Int.reduceAdd, Int.reduceSub, Int.reduceMul, Int.reduceToNat, i_law02_CoderBack_b3, List.flatMap_nil]
    split <;> rfl
  | n + 1, i, h0, h1, hb, h2 => by
    have e := drop_step (l := ml.take 50) (d := []) (i := i.toNat) (by omega)
    simp only [List.length_take] at h1
    rw [getD_take (by omega)] at e
    generalize hd : ml.getD i.toNat [] = v at *
    rw [e, List.flatMap_cons] at h2 ⊢
    rw [e] at hb
    have hv := hb v (by simp)
    simp only [List.length_append] at h2
    have e1 : (i + 1).toNat = i.toNat + 1 := by omega
    have ih := back_loop3 ml hml n (i + 1) (by omega) (by simp only [List.length_take]; omega) (by rw [e1]; exact fun b h => hb b (by simp [h])) (by rw [e1]; omega)
    rw [e1] at ih
    have k := coder_ReaderBytes_ev ⟨byts v ++ ((ml.take 50).drop (i.toNat + 1)).flatMap byts, false⟩ 1000 (by omega) (by simp only [List.length_append]; omega)
    rw [read_byts v (by omega) 1000 (by omega)] at k
    rw [L_law02_CoderBack_3_eq]
    simp (maxSteps := 1000000) (disch := first | omega | (simp only [List.length_cons, List.length_nil, List.length_append, List.length_map, List.length_take, List.length_drop]; omega)) only [go_sem, ↓reduceIte, Nat.reduceSub, Nat.reduceAdd, Nat.reduceMul, Nat.reduceLeDiff, Nat.reduceLT, Nat.reduceEqDiff, Nat.reduceBEq, Int.reduceLE, Int.reduceLT, Int.reduceEq, Int.reduceNeg, Int.reduceAdd, Int.reduceSub, Int.reduceMul, Int.reduceToNat, i_law02_CoderBack_b3, hd, k, ih]

theorem flat_len {α : Type} {f : α → List UInt8} {k : Nat} : ∀ {l : List α}, (∀ x ∈ l, (f x).length ≤ k) → (l.flatMap f).length ≤ k * l.length
  | [], _ => by simp
  | x :: l, h => by
    have h1 := h x (by simp)
    have h2 := flat_len (l := l) fun y hy => h y (by simp [hy])
    simp only [List.flatMap_cons, List.length_append, List.length_cons, Nat.mul_succ]
    omega
theorem law_CoderBack (l : List Int) (ml : List (List UInt8)) (hll : l.length ≤ 1048576) (hl : ∀ v ∈ l, 0 ≤ v ∧ v < 18446744073709551616) (hml : ml.length ≤ 1048576) (hms : ∀ b ∈ ml, b.length ≤ 1048576) : ∃ outs, Ev tab G0 n_law02_CoderBack [.sl true (eI .u64 l), .sl true (eBs ml)] [] = some ([bo true], outs) := by
  have a0 := back_loop0 l ml hl hll (l.take 50).length 0 [] (by omega) (by omega) (by simp; omega)
  simp only [Int.toNat_zero, List.drop_zero, List.nil_append] at a0
  have hW : ((l.take 50).flatMap num).length ≤ 9 * (l.take 50).length := flat_len fun x _ => (num_len x).1
  generalize hw : (l.take 50).flatMap num = w at *
  have h50 : (l.take 50).length ≤ 50 := by simp; omega
  have h50' : (ml.take 50).length ≤ 50 := by simp; omega
  have a1 := back_loop1 l ml hml hms (ml.take 50).length 0 w (by omega) (by omega) (by omega)
  simp only [Int.toNat_zero, List.drop_zero] at a1
  rcases a1 with ⟨a1, hb⟩ | ⟨st, outs, a1, a2⟩
  · have hM : ((ml.take 50).flatMap byts).length ≤ 1009 * (ml.take 50).length := flat_len fun x hx => by have := byts_len x; have := hb x hx; omega
    have a2 := back_loop2 l ml hl hll ((ml.take 50).flatMap byts) (l.take 50).length 0 (by omega) (by omega) (by simp only [Int.toNat_zero, List.drop_zero, hw]; omega)
    have a3 := back_loop3 ml hml (ml.take 50).length 0 (by omega) (by omega) (by simpa using hb) (by simp only [Int.toNat_zero, List.drop_zero]; omega)
    simp only [Int.toNat_zero, List.drop_zero, hw] at a2 a3
    generalize (ml.take 50).flatMap byts = x at *
    have k0 := coder_NewReader_ev (w ++ x) (by simp only [List.length_append]; omega)
    have k4 := coder_Number_ev 248 (by omega)
    have e4 : num 248 = [248, 248] := by decide
    rw [e4] at k4
    have k5 := coder_End_ev ⟨[], false⟩ (by simp)
    have e5 : errV (Rd.fin ⟨[], false⟩) = .s .nilIface := by simp [Rd.fin, errV]
    rw [e5] at k5
    simp only [eB_nil, rO] at k5
    refine ⟨[], Ev_run t_law02_CoderBack rfl rfl ?_⟩
    cases w with
    | nil =>
      rw [List.nil_append] at a1 k0 a2
      simp (maxSteps := 1000000) (disch := first | omega | (simp only [List.length_cons, List.length_nil, List.length_append, List.length_map, List.length_take, List.length_drop]; omega)) only [go_sem, ↓reduceIte, Nat.reduceSub, Nat.reduceAdd, Nat.reduceMul, Nat.reduceLeDiff, Nat.reduceLT, Nat.reduceEqDiff, Nat.reduceBEq, Int.reduceLE, Int.reduceLT, Int.reduceEq, Int.reduceNeg, Int.reduceAdd, Int.reduceSub, Int.reduceMul, Int.reduceToNat, rwA_nil, rwO_nil] at a0
      cases x with
      | nil =>
        simp (maxSteps := 1000000) (disch := first | omega | (simp only [List.length_cons, List.length_nil, List.length_append, List.length_map, List.length_take, List.length_drop]; omega)) only [go_sem, ↓reduceIte, Nat.reduceSub, Nat.reduceAdd, Nat.reduceMul, Nat.reduceLeDiff, Nat.reduceLT, Nat.reduceEqDiff, Nat.reduceBEq, Int.reduceLE, Int.reduceLT, Int.reduceEq, Int.reduceNeg, Int.reduceAdd, Int.reduceSub, Int.reduceMul, Int.reduceToNat, rwA_nil, rwO_nil] at a1
        simp only [eB_nil, rO] at k0 a2 a3
        simp (maxSteps := 1000000) (disch := first | omega | (simp only [List.length_cons, List.length_nil, List.length_append, List.length_map, List.length_take, List.length_drop]; omega)) only [go_sem, ↓reduceIte, Nat.reduceSub, Nat.reduceAdd, Nat.reduceMul, Nat.reduceLeDiff, Nat.reduceLT, Nat.reduceEqDiff, Nat.reduceBEq, Int.reduceLE, Int.reduceLT, Int.reduceEq, Int.reduceNeg, Int.reduceAdd, Int.reduceSub, Int.reduceMul, Int.reduceToNat, i_law02_CoderBack, a0, a1, a2, a3, k0, k4, k5]
      | cons b y =>
        simp (maxSteps := 1000000) (disch := first | omega | (simp only [List.length_cons, List.length_nil, List.length_append, List.length_map, List.length_take, List.length_drop]; omega)) only [go_sem, ↓reduceIte, Nat.reduceSub, Nat.reduceAdd, Nat.reduceMul, Nat.reduceLeDiff, Nat.reduceLT, Nat.reduceEqDiff, Nat.reduceBEq, Int.reduceLE, Int.reduceLT, Int.reduceEq, Int.reduceNeg, Int.reduceAdd, Int.reduceSub, Int.reduceMul, Int.reduceToNat, rwA, rwO] at a1
        simp (maxSteps := 1000000) (disch := first | omega | (simp only [List.length_cons, List.length_nil, List.length_append, List.length_map, List.length_take, List.length_drop]; omega)) only [go_sem, ↓reduceIte, Nat.reduceSub, Nat.reduceAdd, Nat.reduceMul, Nat.reduceLeDiff, Nat.reduceLT, Nat.reduceEqDiff, Nat.reduceBEq, Int.reduceLE, Int.reduceLT, Int.reduceEq, Int.reduceNeg, Int.reduceAdd, Int.reduceSub, Int.reduceMul, Int.reduceToNat, i_law02_CoderBack, a0, a1, a2, a3, k0, k4, k5]
    | cons b y =>
      rw [List.cons_append] at a1 k0 a2
      simp (maxSteps := 1000000) (disch := first | omega | (simp only [List.length_cons, List.length_nil, List.length_append, List.length_map, List.length_take, List.length_drop]; omega)) only [go_sem, ↓reduceIte, Nat.reduceSub, Nat.reduceAdd, Nat.reduceMul, Nat.reduceLeDiff, Nat.reduceLT, Nat.reduceEqDiff, Nat.reduceBEq, Int.reduceLE, Int.reduceLT, Int.reduceEq, Int.reduceNeg, Int.reduceAdd, Int.reduceSub, Int.reduceMul, Int.reduceToNat, rwA, rwO] at a0
      simp (maxSteps := 1000000) (disch := first | omega | (simp only [List.length_cons, List.length_nil, List.length_append, List.length_map, List.length_take, List.length_drop]; omega)) only [go_sem, ↓reduceIte, Nat.reduceSub, Nat.reduceAdd, Nat.reduceMul, Nat.reduceLeDiff, Nat.reduceLT, Nat.reduceEqDiff, Nat.reduceBEq, Int.reduceLE, Int.reduceLT, Int.reduceEq, Int.reduceNeg, Int.reduceAdd, Int.reduceSub, Int.reduceMul, Int.reduceToNat, rwA, rwO] at a1
      simp (maxSteps := 1000000) (disch := first | omega | (simp only [List.length_cons, List.length_nil, List.length_append, List.length_map, List.length_take, List.length_drop]; omega)) only [go_sem, ↓reduceIte, Nat.reduceSub, Nat.reduceAdd, Nat.reduceMul, Nat.reduceLeDiff, Nat.reduceLT, Nat.reduceEqDiff, Nat.reduceBEq, Int.reduceLE, Int.reduceLT, Int.reduceEq, Int.reduceNeg, Int.reduceAdd, Int.reduceSub, Int.reduceMul, Int.reduceToNat, i_law02_CoderBack, a0, a1, a2, a3, k0, k4, k5]
  · refine ⟨outs, Ev_run t_law02_CoderBack rfl rfl ?_⟩
    cases w with
    | nil =>
      simp (maxSteps := 1000000) (disch := first | omega | (simp only [List.length_cons, List.length_nil, List.length_append, List.length_map, List.length_take, List.length_drop]; omega)) only [go_sem, ↓reduceIte, Nat.reduceSub, Nat.reduceAdd, Nat.reduceMul, Nat.reduceLeDiff, Nat.reduceLT, Nat.reduceEqDiff, Nat.reduceBEq, Int.reduceLE, Int.reduceLT, Int.reduceEq, Int.reduceNeg, Int.reduceAdd, Int.reduceSub, Int.reduceMul, Int.reduceToNat, rwA_nil, rwO_nil] at a0
      simp (maxSteps := 1000000) (disch := first | omega | (simp only [List.length_cons, List.length_nil, List.length_append, List.length_map, List.length_take, List.length_drop]; omega)) only [go_sem, ↓reduceIte, Nat.reduceSub, Nat.reduceAdd, Nat.reduceMul, Nat.reduceLeDiff, Nat.reduceLT, Nat.reduceEqDiff, Nat.reduceBEq, Int.reduceLE, Int.reduceLT, Int.reduceEq, Int.reduceNeg, Int.reduceAdd, Int.reduceSub, Int.reduceMul, Int.reduceToNat, rwA_nil, rwO_nil] at a1
      simp (maxSteps := 1000000) (disch := first | omega | (simp only [List.length_cons, List.length_nil, List.length_append, List.length_map, List.length_take, List.length_drop]; omega)) only [go_sem, ↓reduceIte, Nat.reduceSub, Nat.reduceAdd, Nat.reduceMul, Nat.reduceLeDiff, Nat.reduceLT, Nat.reduceEqDiff, Nat.reduceBEq, Int.reduceLE, Int.reduceLT, Int.reduceEq, Int.reduceNeg, Int.reduceAdd, Int.reduceSub, Int.reduceMul, Int.reduceToNat, i_law02_CoderBack, a0, a1]
      simp (maxSteps := 1000000) (disch := first | omega | (simp only [List.length_cons, List.length_nil, List.length_append, List.length_map, List.length_take, List.length_drop]; omega)) only [go_sem, ↓reduceIte, Nat.reduceSub, Nat.reduceAdd, Nat.reduceMul, Nat.reduceLeDiff, Nat.reduceLT, Nat.reduceEqDiff, Nat.reduceBEq, Int.reduceLE, Int.reduceLT, Int.reduceEq, Int.reduceNeg, Int.reduceAdd, Int.reduceSub, Int.reduceMul, Int.reduceToNat, i_law02_CoderBack] at a2
      exact a2
    | cons b y =>
      simp (maxSteps := 1000000) (disch := first | omega | (simp only [List.length_cons, List.length_nil, List.length_append, List.length_map, List.length_take, List.length_drop]; omega)) only [go_sem, ↓reduceIte, Nat.reduceSub, Nat.reduceAdd, Nat.reduceMul, Nat.reduceLeDiff, Nat.reduceLT, Nat.reduceEqDiff, Nat.reduceBEq, Int.reduceLE, Int.reduceLT, Int.reduceEq, Int.reduceNeg, Int.reduceAdd, Int.reduceSub, Int.reduceMul, Int.reduceToNat, rwA, rwO] at a0
      simp (maxSteps := 1000000) (disch := first | omega | (simp only [List.length_cons, List.length_nil, List.length_append, List.length_map, List.length_take, List.length_drop]; omega)) only [go_sem, ↓reduceIte, Nat.reduceSub, Nat.reduceAdd, Nat.reduceMul, Nat.reduceLeDiff, Nat.reduceLT, Nat.reduceEqDiff, Nat.reduceBEq, Int.reduceLE, Int.reduceLT, Int.reduceEq, Int.reduceNeg, Int.reduceAdd, Int.reduceSub, Int.reduceMul, Int.reduceToNat, rwA, rwO] at a1
      simp (maxSteps := 1000000) (disch := first | omega | (simp only [List.length_cons, List.length_nil, List.length_append, List.length_map, List.length_take, List.length_drop]; omega)) only [go_sem, ↓reduceIte, Nat.reduceSub, Nat.reduceAdd, Nat.reduceMul, Nat.reduceLeDiff, Nat.reduceLT, Nat.reduceEqDiff, Nat.reduceBEq, Int.reduceLE, Int.reduceLT, Int.reduceEq, Int.reduceNeg, Int.reduceAdd, Int.reduceSub, Int.reduceMul, Int.reduceToNat, i_law02_CoderBack, a0, a1]
      simp (maxSteps := 1000000) (disch := first | omega | (simp only [List.length_cons, List.length_nil, List.length_append, List.length_map, List.length_take, List.length_drop]; omega)) only [go_sem, ↓reduceIte, Nat.reduceSub, Nat.reduceAdd, Nat.reduceMul, Nat.reduceLeDiff, Nat.reduceLT, Nat.reduceEqDiff, Nat.reduceBEq, Int.reduceLE, Int.reduceLT, Int.reduceEq, Int.reduceNeg, Int.reduceAdd, Int.reduceSub, Int.reduceMul, Int.reduceToNat, i_law02_CoderBack] at a2
      exact a2

end Go.Proofs.Ytfbipgidlecmkaa
