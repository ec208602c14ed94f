/-
  coder.Number and the document's Number, by the evaluator.
-/
import Derived.Test.YtfihodpdjpcpfaaIr
set_option linter.unusedSimpArgs false
set_option linter.unusedVariables false
set_option maxRecDepth 200000
set_option maxHeartbeats 4000000
namespace Go.Proofs.Ytfihodpdjpcpfaa
open Go.Ev

/-- How many bytes. -/
def cnt : Nat → Int → Int → Int
  | 0, _, n => n
  | f + 1, v, n => if n < 8 then (if 0 < v.fdiv (2 ^ (min (8 * n).toNat 64)) then cnt f v (n + 1) else n) else n
theorem cnt_le : ∀ (f : Nat) (v n : Int), 1 ≤ n → n ≤ 8 → 1 ≤ cnt f v n ∧ cnt f v n ≤ 8
  | 0, v, n, h1, h2 => ⟨h1, h2⟩
  | f + 1, v, n, h1, h2 => by
    simp only [cnt]
    split
    · split
      · exact cnt_le f v (n + 1) (by omega) (by omega)
      · exact ⟨h1, h2⟩
    · exact ⟨h1, h2⟩
/-- The bytes of a number, from one on. -/
def dgs (v : Int) : Nat → List UInt8
  | 0 => []
  | f + 1 => byt (v.fdiv (2 ^ (min (8 * (f : Int)).toNat 64))) :: dgs v f
/-- So many bytes of a number. -/
def beB : Nat → Int → List UInt8
  | 0, _ => []
  | k + 1, v => beB k (v / 256) ++ [byt v]
theorem byt_mod {n : Int} : byt (n % 256) = byt n := by simp [byt]
theorem fdiv_pow {v : Int} {f : Nat} (hf : f ≤ 8) : v.fdiv (2 ^ (min (8 * (f : Int)).toNat 64)) = v / 256 ^ f := by
  rw [Int.fdiv_eq_ediv_of_nonneg _ (Int.le_of_lt (Int.pow_pos (by decide)))]
  congr 1
  have : min (8 * (f : Int)).toNat 64 = 8 * f := by omega
  rw [this, Int.pow_mul]
  rfl
theorem dgs_eq : ∀ (f : Nat) (v : Int), f ≤ 8 → dgs v f = beB f v := by
  have key : ∀ (f : Nat) (v : Int), f + 1 ≤ 8 → beB (f + 1) v = byt (v / 256 ^ f) :: beB f v := by
    intro f
    induction f with
    | zero => intro v _; simp [beB]
    | succ f ih =>
      intro v h
      rw [beB, ih (v / 256) (by omega), beB]
      have : v / 256 / 256 ^ f = v / 256 ^ (f + 1) := by
        rw [Int.ediv_ediv_of_nonneg (by decide)]
        congr 1
        rw [Int.pow_succ, Int.mul_comm]
      simp [this]
  intro f
  induction f with
  | zero => intro v _; rfl
  | succ f ih =>
    intro v h
    rw [key f v h, dgs, fdiv_pow (by omega), ih v (by omega)]
/-- How many bytes a number has. -/
def nby : Nat → Int → Nat
  | 0, _ => 0
  | k + 1, v => if v ≤ 0 then 0 else nby k (v / 256) + 1
/-- A number's bytes. -/
def num (v : Int) : List UInt8 := if v ≤ 247 then [byt v] else byt (247 + nby 8 v) :: beB (nby 8 v) v
theorem beB_len : ∀ (k : Nat) (v : Int), (beB k v).length = k
  | 0, _ => rfl
  | k + 1, v => by simp [beB, beB_len k]

theorem cnt_nby : ∀ (f n : Nat) (v : Int), 1 ≤ n → n + f = 8 → 0 ≤ v → cnt f v n = n + nby f (v / 256 ^ n)
  | 0, n, v, h1, h2, h3 => by simp [cnt, nby]
  | f + 1, n, v, h1, h2, h3 => by
    have ih := cnt_nby f (n + 1) v (by omega) (by omega) h3
    simp only [cnt, nby]
    rw [if_pos (by omega), fdiv_pow (by omega)]
    have e : v / 256 ^ n / 256 = v / 256 ^ (n + 1) := by rw [Int.ediv_ediv_of_nonneg (Int.le_of_lt (Int.pow_pos (by decide))), Int.pow_succ]
    by_cases h : 0 < v / 256 ^ n
    · rw [if_pos h, if_neg (by omega), e]
      have : ((n : Int) + 1) = ((n + 1 : Nat) : Int) := by omega
      rw [this, ih]
      omega
    · rw [if_neg h, if_pos (by omega)]
      omega
theorem nby_le : ∀ (k : Nat) (v : Int), nby k v ≤ k
  | 0, _ => Nat.le_refl _
  | k + 1, v => by
    simp only [nby]
    split
    · omega
    · have := nby_le k (v / 256); omega
theorem nby_pos {v : Int} (h : 0 < v) : nby 8 v = nby 7 (v / 256) + 1 := by
  rw [nby, if_neg (by omega)]
theorem num_len (v : Int) : (num v).length ≤ 9 ∧ 1 ≤ (num v).length := by
  unfold num
  have := nby_le 8 v
  split
  · simp
  · simp [beB_len]; omega

end Go.Proofs.Ytfihodpdjpcpfaa
