/-
  coder.Number and the document's Number, by the evaluator.
-/
import Derived.Test.YtdngljdbgepaiaaGreatDoorIr
set_option linter.unusedSimpArgs false
set_option linter.unusedVariables false
set_option maxRecDepth 200000
set_option maxHeartbeats 4000000
namespace Go.Proofs.YtdngljdbgepaiaaGreatDoor
open Go.Ev

/-- How many bytes. -/
def cnt : Nat → Int → Int → Int
  | 0, _, n => n
  | f + 1, v, n => if n < 8 then (if 0 < v.fdiv (2 ^ (min (8 * n).toNat 64)) then cnt f v (n + 1) else n) else n
theorem num_loop0 : ∀ (f : Nat) (v n : Int), 1 ≤ n → n ≤ 8 → 8 - n ≤ f → L_coder_Number_0 (s_coder_Number_K0 (u64 v) (i64 n) [none]) = some (.exit 0, s_coder_Number_J0 (u64 v) (i64 (cnt f v n)) [none])
  | 0, v, n, h1, h2, h3 => by
    rw [L_coder_Number_0_eq]
    simp (maxSteps := 1000000) (disch := first | omega | (simp only [lens, List.length_map]; omega)) only [go_sem, ↓reduceIte, Nat.reduceSub, Nat.reduceAdd, Nat.reduceMul, Nat.reduceLeDiff, Nat.reduceLT, Nat.reduceEqDiff, Nat.reduceBEq, Int.reduceLE, Int.reduceLT, Int.reduceEq, Int.reduceNeg, Int.reduceAdd, Int.reduceSub, Int.reduceMul, Int.reduceToNat, i_coder_Number_b0, cnt]
  | f + 1, v, n, h1, h2, h3 => by
    rw [L_coder_Number_0_eq]
    by_cases h8 : n < 8
    · have ih := num_loop0 f v (n + 1) (by omega) (by omega) (by omega)
      simp (maxSteps := 1000000) (disch := first | omega | (simp only [lens, List.length_map]; omega)) only [go_sem, ↓reduceIte, Nat.reduceSub, Nat.reduceAdd, Nat.reduceMul, Nat.reduceLeDiff, Nat.reduceLT, Nat.reduceEqDiff, Nat.reduceBEq, Int.reduceLE, Int.reduceLT, Int.reduceEq, Int.reduceNeg, Int.reduceAdd, Int.reduceSub, Int.reduceMul, Int.reduceToNat, i_coder_Number_b0, cnt, ih]
      split <;> rfl
    · simp (maxSteps := 1000000) (disch := first | omega | (simp only [lens, List.length_map]; omega)) only [go_sem, ↓reduceIte, Nat.reduceSub, Nat.reduceAdd, Nat.reduceMul, Nat.reduceLeDiff, Nat.reduceLT, Nat.reduceEqDiff, Nat.reduceBEq, Int.reduceLE, Int.reduceLT, Int.reduceEq, Int.reduceNeg, Int.reduceAdd, Int.reduceSub, Int.reduceMul, Int.reduceToNat, i_coder_Number_b0, cnt]
/-- The bytes of a number, from one on. -/
def dgs (v : Int) : Nat → List UInt8
  | 0 => []
  | f + 1 => byt (v.fdiv (2 ^ (min (8 * (f : Int)).toNat 64))) :: dgs v f
theorem num_loop1 : ∀ (f : Nat) (v n i : Int) (l : List UInt8), 0 ≤ i → i + f = n → n ≤ 8 → l.length + f < 20 → L_coder_Number_1 (s_coder_Number_K1 (u64 v) (i64 n) (.row 0 l.length) (i64 n) (i64 i) [some (.row ty_uint8 1 true false (eB l))]) = some (.exit 2, s_coder_Number_J2 (.row 0 (l.length + f)) [some (.row ty_uint8 1 true false (eB (l ++ dgs v f)))])
  | 0, v, n, i, l, h1, h2, h3, h4 => by
    rw [L_coder_Number_1_eq]
    simp (maxSteps := 1000000) (disch := first | omega | (simp only [lens, List.length_map]; omega)) only [go_sem, ↓reduceIte, Nat.reduceSub, Nat.reduceAdd, Nat.reduceMul, Nat.reduceLeDiff, Nat.reduceLT, Nat.reduceEqDiff, Nat.reduceBEq, Int.reduceLE, Int.reduceLT, Int.reduceEq, Int.reduceNeg, Int.reduceAdd, Int.reduceSub, Int.reduceMul, Int.reduceToNat, i_coder_Number_b1, dgs]
  | f + 1, v, n, i, l, h1, h2, h3, h4 => by
    rw [L_coder_Number_1_eq]
    have ih := num_loop1 f v n (i + 1) (l ++ [byt (v.fdiv (2 ^ (min (8 * (f : Int)).toNat 64)))]) (by omega) (by omega) (by omega) (by simp; omega)
    have e : n - 1 - i = f := by omega
    simp (maxSteps := 1000000) (disch := first | omega | (simp only [lens, List.length_map]; omega)) only [go_sem, ↓reduceIte, Nat.reduceSub, Nat.reduceAdd, Nat.reduceMul, Nat.reduceLeDiff, Nat.reduceLT, Nat.reduceEqDiff, Nat.reduceBEq, Int.reduceLE, Int.reduceLT, Int.reduceEq, Int.reduceNeg, Int.reduceAdd, Int.reduceSub, Int.reduceMul, Int.reduceToNat] at ih
    simp (maxSteps := 1000000) (disch := first | omega | (simp only [lens, List.length_map]; omega)) only [go_sem, ↓reduceIte, Nat.reduceSub, Nat.reduceAdd, Nat.reduceMul, Nat.reduceLeDiff, Nat.reduceLT, Nat.reduceEqDiff, Nat.reduceBEq, Int.reduceLE, Int.reduceLT, Int.reduceEq, Int.reduceNeg, Int.reduceAdd, Int.reduceSub, Int.reduceMul, Int.reduceToNat, i_coder_Number_b1, dgs, e, ih, Nat.add_assoc, Nat.add_comm 1 f]
/-- So many bytes of a number. -/
def beB : Nat → Int → List UInt8
  | 0, _ => []
  | k + 1, v => beB k (v / 256) ++ [byt v]
theorem byt_mod {n : Int} : byt (n % 256) = byt n := by simp [byt]
theorem fdiv_pow {v : Int} {f : Nat} (hf : f ≤ 8) : v.fdiv (2 ^ (min (8 * (f : Int)).toNat 64)) = v / 256 ^ f := by
  rw [Int.fdiv_eq_ediv_of_nonneg _ (Int.le_of_lt (Int.pow_pos (by decide)))]
  congr 1
  have : min (8 * (f : Int)).toNat 64 = 8 * f := by omega
  rw [this, Int.pow_mul]
  rfl
theorem dgs_eq : ∀ (f : Nat) (v : Int), f ≤ 8 → dgs v f = beB f v := by
  have key : ∀ (f : Nat) (v : Int), f + 1 ≤ 8 → beB (f + 1) v = byt (v / 256 ^ f) :: beB f v := by
    intro f
    induction f with
    | zero => intro v _; simp [beB]
    | succ f ih =>
      intro v h
      rw [beB, ih (v / 256) (by omega), beB]
      have : v / 256 / 256 ^ f = v / 256 ^ (f + 1) := by
        rw [Int.ediv_ediv_of_nonneg (by decide)]
        congr 1
        rw [Int.pow_succ, Int.mul_comm]
      simp [this]
  intro f
  induction f with
  | zero => intro v _; rfl
  | succ f ih =>
    intro v h
    rw [key f v h, dgs, fdiv_pow (by omega), ih v (by omega)]
/-- How many bytes a number has. -/
def nby : Nat → Int → Nat
  | 0, _ => 0
  | k + 1, v => if v ≤ 0 then 0 else nby k (v / 256) + 1
/-- A number's bytes. -/
def num (v : Int) : List UInt8 := if v ≤ 247 then [byt v] else byt (247 + nby 8 v) :: beB (nby 8 v) v
theorem beB_len : ∀ (k : Nat) (v : Int), (beB k v).length = k
  | 0, _ => rfl
  | k + 1, v => by simp [beB, beB_len k]

theorem cnt_nby : ∀ (f n : Nat) (v : Int), 1 ≤ n → n + f = 8 → 0 ≤ v → cnt f v n = n + nby f (v / 256 ^ n)
  | 0, n, v, h1, h2, h3 => by simp [cnt, nby]
  | f + 1, n, v, h1, h2, h3 => by
    have ih := cnt_nby f (n + 1) v (by omega) (by omega) h3
    simp only [cnt, nby]
    rw [if_pos (by omega), fdiv_pow (by omega)]
    have e : v / 256 ^ n / 256 = v / 256 ^ (n + 1) := by rw [Int.ediv_ediv_of_nonneg (Int.le_of_lt (Int.pow_pos (by decide))), Int.pow_succ]
    by_cases h : 0 < v / 256 ^ n
    · rw [if_pos h, if_neg (by omega), e]
      have : ((n : Int) + 1) = ((n + 1 : Nat) : Int) := by omega
      rw [this, ih]
      omega
    · rw [if_neg h, if_pos (by omega)]
      omega
theorem nby_le : ∀ (k : Nat) (v : Int), nby k v ≤ k
  | 0, _ => Nat.le_refl _
  | k + 1, v => by
    simp only [nby]
    split
    · omega
    · have := nby_le k (v / 256); omega
theorem nby_pos {v : Int} (h : 0 < v) : nby 8 v = nby 7 (v / 256) + 1 := by
  rw [nby, if_neg (by omega)]
theorem num_len (v : Int) : (num v).length ≤ 9 ∧ 1 ≤ (num v).length := by
  unfold num
  have := nby_le 8 v
  split
  · simp
  · simp [beB_len]; omega

theorem coder_Number_ev (v : Int) (h : 0 ≤ v ∧ v < 18446744073709551616) : Ev tab G0 n_coder_Number [u64 v] [] = some ([.row 0 (num v).length], [.row ty_uint8 1 true false (eB (num v))]) := by
  have c := nby_le 8 v
  have h0 := num_loop0 7 v 1 (by omega) (by omega) (by omega)
  by_cases hv : v ≤ 247
  · refine Ev_run t_coder_Number rfl rfl ?_
    simp (maxSteps := 1000000) (disch := first | omega | (simp only [lens, List.length_map]; omega)) only [go_sem, ↓reduceIte, Nat.reduceSub, Nat.reduceAdd, Nat.reduceMul, Nat.reduceLeDiff, Nat.reduceLT, Nat.reduceEqDiff, Nat.reduceBEq, Int.reduceLE, Int.reduceLT, Int.reduceEq, Int.reduceNeg, Int.reduceAdd, Int.reduceSub, Int.reduceMul, Int.reduceToNat, i_coder_Number, num]
  · have e := cnt_nby 7 1 v (by omega) (by omega) h.1
    have e' : (1 : Int) + nby 7 (v / 256 ^ 1) = (nby 8 v : Nat) := by
      rw [nby_pos (by omega)]
      have : v / 256 ^ 1 = v / 256 := rfl
      rw [this]
      omega
    have e2 : cnt 7 v 1 = (nby 8 v : Nat) := by rw [← e']; exact e
    rw [e2] at h0
    have h1 := num_loop1 (nby 8 v) v (nby 8 v) 0 [byt (247 + nby 8 v)] (by omega) (by omega) (by omega) (by simp; omega)
    rw [dgs_eq _ _ c] at h1
    have hlen : (num v).length = 1 + nby 8 v := by
      unfold num
      rw [if_neg hv]
      simp [beB_len]
      omega
    have hp : 1 ≤ nby 8 v := by rw [nby_pos (by omega)]; omega
    try simp (maxSteps := 1000000) (disch := first | omega | (simp only [lens, List.length_map]; omega)) only [go_sem, ↓reduceIte, Nat.reduceSub, Nat.reduceAdd, Nat.reduceMul, Nat.reduceLeDiff, Nat.reduceLT, Nat.reduceEqDiff, Nat.reduceBEq, Int.reduceLE, Int.reduceLT, Int.reduceEq, Int.reduceNeg, Int.reduceAdd, Int.reduceSub, Int.reduceMul, Int.reduceToNat] at h1
    rw [hlen]
    refine Ev_run t_coder_Number rfl rfl ?_
    simp (maxSteps := 1000000) (disch := first | omega | (simp only [lens, List.length_map]; omega)) only [go_sem, ↓reduceIte, Nat.reduceSub, Nat.reduceAdd, Nat.reduceMul, Nat.reduceLeDiff, Nat.reduceLT, Nat.reduceEqDiff, Nat.reduceBEq, Int.reduceLE, Int.reduceLT, Int.reduceEq, Int.reduceNeg, Int.reduceAdd, Int.reduceSub, Int.reduceMul, Int.reduceToNat, i_coder_Number, h0, h1, num]

theorem rnum_loop0 : ∀ (k : Nat) (v : Int) (l : List UInt8), 0 ≤ v → v < 256 ^ k → v < 18446744073709551616 → l.length + k < 100 → L_ref02_Number_0 (s_ref02_Number_K0 (u64 v) (.sl true (eB l)) [none, none]) = some (.exit 0, s_ref02_Number_J0 (.sl true (eB (beB (nby k v) v ++ l))) [none, none])
  | 0, v, l, h0, h1, h2, h3 => by
    obtain rfl : v = 0 := by simp at h1; omega
    rw [L_ref02_Number_0_eq]
    simp (maxSteps := 1000000) (disch := first | omega | (simp only [lens, List.length_map]; omega)) only [go_sem, ↓reduceIte, Nat.reduceSub, Nat.reduceAdd, Nat.reduceMul, Nat.reduceLeDiff, Nat.reduceLT, Nat.reduceEqDiff, Nat.reduceBEq, Int.reduceLE, Int.reduceLT, Int.reduceEq, Int.reduceNeg, Int.reduceAdd, Int.reduceSub, Int.reduceMul, Int.reduceToNat, i_ref02_Number_b0, nby, beB]
  | k + 1, v, l, h0, h1, h2, h3 => by
    rw [L_ref02_Number_0_eq]
    by_cases hv : v = 0
    · subst hv
      simp (maxSteps := 1000000) (disch := first | omega | (simp only [lens, List.length_map]; omega)) only [go_sem, ↓reduceIte, Nat.reduceSub, Nat.reduceAdd, Nat.reduceMul, Nat.reduceLeDiff, Nat.reduceLT, Nat.reduceEqDiff, Nat.reduceBEq, Int.reduceLE, Int.reduceLT, Int.reduceEq, Int.reduceNeg, Int.reduceAdd, Int.reduceSub, Int.reduceMul, Int.reduceToNat, i_ref02_Number_b0, nby, beB]
    · have : v < 256 ^ k * 256 := by rw [← Int.pow_succ]; exact h1
      have ih := rnum_loop0 k (v / 256) (byt v :: l) (by omega) (by omega) (by omega) (by simp; omega)
      try simp (maxSteps := 1000000) (disch := first | omega | (simp only [lens, List.length_map]; omega)) only [go_sem, ↓reduceIte, Nat.reduceSub, Nat.reduceAdd, Nat.reduceMul, Nat.reduceLeDiff, Nat.reduceLT, Nat.reduceEqDiff, Nat.reduceBEq, Int.reduceLE, Int.reduceLT, Int.reduceEq, Int.reduceNeg, Int.reduceAdd, Int.reduceSub, Int.reduceMul, Int.reduceToNat] at ih
      simp (maxSteps := 1000000) (disch := first | omega | (simp only [lens, List.length_map]; omega)) only [go_sem, ↓reduceIte, Nat.reduceSub, Nat.reduceAdd, Nat.reduceMul, Nat.reduceLeDiff, Nat.reduceLT, Nat.reduceEqDiff, Nat.reduceBEq, Int.reduceLE, Int.reduceLT, Int.reduceEq, Int.reduceNeg, Int.reduceAdd, Int.reduceSub, Int.reduceMul, Int.reduceToNat, i_ref02_Number_b0, nby, beB, byt_mod, ih]
theorem ref02_Number_ev (v : Int) (h : 0 ≤ v ∧ v < 18446744073709551616) : Ev tab G0 n_ref02_Number [u64 v] [] = some ([.row 0 (num v).length], [.row ty_uint8 1 true false (eB (num v))]) := by
  have c := nby_le 8 v
  have h0 := rnum_loop0 8 v [] h.1 (by omega) h.2 (by simp)
  try simp (maxSteps := 1000000) (disch := first | omega | (simp only [lens, List.length_map]; omega)) only [go_sem, ↓reduceIte, Nat.reduceSub, Nat.reduceAdd, Nat.reduceMul, Nat.reduceLeDiff, Nat.reduceLT, Nat.reduceEqDiff, Nat.reduceBEq, Int.reduceLE, Int.reduceLT, Int.reduceEq, Int.reduceNeg, Int.reduceAdd, Int.reduceSub, Int.reduceMul, Int.reduceToNat] at h0
  by_cases hv : v ≤ 247
  · refine Ev_run t_ref02_Number rfl rfl ?_
    simp (maxSteps := 1000000) (disch := first | omega | (simp only [lens, List.length_map]; omega)) only [go_sem, ↓reduceIte, Nat.reduceSub, Nat.reduceAdd, Nat.reduceMul, Nat.reduceLeDiff, Nat.reduceLT, Nat.reduceEqDiff, Nat.reduceBEq, Int.reduceLE, Int.reduceLT, Int.reduceEq, Int.reduceNeg, Int.reduceAdd, Int.reduceSub, Int.reduceMul, Int.reduceToNat, i_ref02_Number, num]
  · have hp : 1 ≤ nby 8 v := by rw [nby_pos (by omega)]; omega
    have hlen : (num v).length = 1 + nby 8 v := by
      unfold num
      rw [if_neg hv]
      simp [beB_len]
      omega
    rw [hlen]
    refine Ev_run t_ref02_Number rfl rfl ?_
    simp (maxSteps := 1000000) (disch := first | omega | (simp only [lens, List.length_map]; omega)) only [go_sem, ↓reduceIte, Nat.reduceSub, Nat.reduceAdd, Nat.reduceMul, Nat.reduceLeDiff, Nat.reduceLT, Nat.reduceEqDiff, Nat.reduceBEq, Int.reduceLE, Int.reduceLT, Int.reduceEq, Int.reduceNeg, Int.reduceAdd, Int.reduceSub, Int.reduceMul, Int.reduceToNat, i_ref02_Number, num, h0, beB_len, Nat.add_comm 1 (nby 8 v)]

end Go.Proofs.YtdngljdbgepaiaaGreatDoor
