/-
  Both Numbers are one.
-/
import Derived.Test.YtfbipgidlecmkaaNumA
set_option linter.unusedSimpArgs false
set_option linter.unusedVariables false
namespace Go.Proofs.Ytfbipgidlecmkaa
open Go.Ev
theorem dg_eq (v : Int) (h0 : 0 ≤ v) (k : Nat) (hk : k ≤ 8) : dg v (8 * k) = v / 256 ^ k % 256 := by
  have e1 : (8 * (k : Int)).toNat = 8 * k := by omega
  have e2 : min (8 * k) 64 = 8 * k := by omega
  have e3 : (2 : Int) ^ (8 * k) = 256 ^ k := by rw [Int.pow_mul]; rfl
  rw [dg, e1, e2, e3, Int.fdiv_eq_ediv_of_nonneg _ (Int.le_of_lt (Int.pow_pos (by decide)))]
  simp [IntKind.wrap, IntKind.signed, IntKind.bits]
theorem dgs_snoc (v n m : Int) (h0 : 0 ≤ v) : ∀ f : Nat, f < 8 → dgs v n (f + 1) = dgs (v / 256) m f ++ [by1 (v % 256)]
  | 0, _ => by
    have := dg_eq v h0 0 (by decide)
    simp at this
    simp [dgs, this]
  | f + 1, hf => by
    rw [dgs, dgs_snoc v n m h0 f (by omega), dgs, List.cons_append]
    congr 2
    have e1 := dg_eq v h0 (f + 1) (by omega)
    have e2 := dg_eq (v / 256) (by omega) f (by omega)
    rw [e1, e2, Int.pow_succ, Int.mul_comm, Int.ediv_ediv_of_nonneg (by decide)]
theorem be_dgs : ∀ (f m : Nat) (v n : Int) (l : List (List C)), 0 ≤ v → f ≤ m → f ≤ 8 → v < 256 ^ f → (f ≠ 0 → 256 ^ (f - 1) ≤ v) → be m v l = dgs v n f ++ l
  | 0, m, v, n, l, h0, h1, h2, h3, h4 => by
    have : v = 0 := by simp at h3; omega
    subst this
    cases m <;> simp [be, dgs]
  | f + 1, m, v, n, l, h0, h1, h2, h3, h4 => by
    obtain ⟨m, rfl⟩ : ∃ k, m = k + 1 := ⟨m - 1, by omega⟩
    have h5 : 256 ^ f ≤ v := h4 (by simp)
    have hp : (0 : Int) < 256 ^ f := Int.pow_pos (by decide)
    rw [be, if_neg (by omega), be_dgs f m (v / 256) n _ (by omega) (by omega) (by omega) (by rw [Int.pow_succ] at h3; omega) (fun hf => ?_), dgs_snoc v n n h0 f (by omega)]
    · simp
    · obtain ⟨g, rfl⟩ : ∃ k, f = k + 1 := ⟨f - 1, by omega⟩
      rw [Int.pow_succ] at h5
      simp
      omega

theorem shr_pos (v : Int) (h0 : 0 ≤ v) (n : Nat) (hn : n ≤ 8) : 0 < v.fdiv (2 ^ (min (8 * (n : Int)).toNat 64)) ↔ 256 ^ n ≤ v := by
  have e1 : (8 * (n : Int)).toNat = 8 * n := by omega
  have e2 : min (8 * n) 64 = 8 * n := by omega
  have e3 : (2 : Int) ^ (8 * n) = 256 ^ n := by rw [Int.pow_mul]; rfl
  have hp : (0 : Int) < 256 ^ n := Int.pow_pos (by decide)
  rw [e1, e2, e3, Int.fdiv_eq_ediv_of_nonneg _ (Int.le_of_lt hp)]
  constructor
  · intro h
    have := Int.ediv_mul_le v (Int.ne_of_gt hp)
    have h2 : 1 * (256 : Int) ^ n ≤ v / 256 ^ n * 256 ^ n := Int.mul_le_mul_of_nonneg_right h (Int.le_of_lt hp)
    omega
  · intro h
    have : 1 ≤ v / 256 ^ n := (Int.le_ediv_iff_mul_le hp).2 (by omega)
    omega

theorem cnt_spec : ∀ (f : Nat) (v : Int) (n : Nat), 0 ≤ v → 1 ≤ n → n ≤ 8 → 8 - n ≤ f → 256 ^ (n - 1) ≤ v → v < 256 ^ 8 → ∃ m : Nat, cnt f v n = m ∧ 1 ≤ m ∧ m ≤ 8 ∧ 256 ^ (m - 1) ≤ v ∧ v < 256 ^ m
  | 0, v, n, h0, h1, h2, h3, h4, h5 => by
    obtain rfl : n = 8 := by omega
    exact ⟨8, rfl, by decide, by decide, h4, h5⟩
  | f + 1, v, n, h0, h1, h2, h3, h4, h5 => by
    simp only [cnt]
    split
    · rename_i hc
      have h6 := (shr_pos v h0 n h2).1 hc.2
      have := cnt_spec f v (n + 1) h0 (by omega) (by omega) (by omega) (by simpa using h6) h5
      simpa using this
    · rename_i hc
      refine ⟨n, rfl, h1, h2, h4, ?_⟩
      by_cases h8 : n = 8
      · rw [h8]; exact h5
      · have : ¬ (256 ^ n ≤ v) := fun h => hc ⟨by omega, (shr_pos v h0 n h2).2 h⟩
        omega
theorem num_ev (v : Int) (h0 : 0 ≤ v) (h2 : v < 18446744073709551616) : Ev tab G0 18 [.s (.int .u64 v)] [] = some ([.sl false (numB v)], []) := by
  rw [num18 v h0 h2]
  by_cases hv : v ≤ 247
  · rw [if_pos hv, numB, if_pos (by omega)]
  · rw [if_neg hv, numB, if_neg (by omega)]
    obtain ⟨m, e1, e2, e3, e4, e5⟩ := cnt_spec 8 v 1 h0 (by decide) (by decide) (by decide) (by simp; omega) (by simpa using h2)
    have e1' : cnt 8 v 1 = m := by simpa using e1
    have hb := be_dgs m 8 v m [] h0 e3 e3 e5 fun _ => e4
    have hl : ∀ f : Nat, (dgs v m f).length = f := fun f => by
      induction f with
      | zero => rfl
      | succ f ih => simp [dgs, ih]
    rw [e1', hb]
    simp [hl]
end Go.Proofs.Ytfbipgidlecmkaa
