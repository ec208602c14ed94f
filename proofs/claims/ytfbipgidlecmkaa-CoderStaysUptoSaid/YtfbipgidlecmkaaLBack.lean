/-
  What was written is read as it was.
-/
import Derived.Test.YtfbipgidlecmkaaLCoder
set_option linter.unusedSimpArgs false
set_option linter.unusedVariables false
set_option maxRecDepth 200000
set_option maxHeartbeats 4000000
namespace Go.Proofs.Ytfbipgidlecmkaa
open Go.Ev

theorem beB_cons : ∀ (f : Nat) (v : Int), beB (f + 1) v = byt (v / 256 ^ f) :: beB f v := by
  intro f
  induction f with
  | zero => intro v; simp [beB]
  | succ f ih =>
    intro v
    rw [beB, ih (v / 256), beB]
    have : v / 256 / 256 ^ f = v / 256 ^ (f + 1) := by
      rw [Int.ediv_ediv_of_nonneg (by decide)]
      congr 1
      rw [Int.pow_succ, Int.mul_comm]
    simp [this]
theorem beV_beB : ∀ (k : Nat) (v : Int), 0 ≤ v → v < 256 ^ k → beV (beB k v) = v
  | 0, v, h0, h1 => by
    simp at h1
    obtain rfl : v = 0 := by omega
    rfl
  | k + 1, v, h0, h1 => by
    have : v < 256 ^ k * 256 := by rw [← Int.pow_succ]; exact h1
    rw [beB, beV_snoc, beV_beB k (v / 256) (by omega) (by omega), toNat_byt]
    omega
theorem nby_spec : ∀ (k : Nat) (v : Int), 0 < v → v < 256 ^ k → ∃ m, nby k v = m + 1 ∧ 256 ^ m ≤ v ∧ v < 256 ^ (m + 1)
  | 0, v, h0, h1 => by simp at h1; omega
  | k + 1, v, h0, h1 => by
    have h2 : v < 256 ^ k * 256 := by rw [← Int.pow_succ]; exact h1
    simp only [nby]
    rw [if_neg (by omega)]
    by_cases hv : v / 256 = 0
    · refine ⟨0, ?_, by simp; omega, by simp; omega⟩
      rw [hv]
      cases k <;> simp [nby]
    · obtain ⟨m, e, h3, h4⟩ := nby_spec k (v / 256) (by omega) (by omega)
      refine ⟨m + 1, by rw [e], ?_, ?_⟩
      · rw [Int.pow_succ]; omega
      · rw [Int.pow_succ]; omega
theorem byt_small {n : Int} (h : 0 ≤ n ∧ n < 256) : ((byt n).toNat : Int) = n := by
  rw [toNat_byt]; omega
theorem read_num (v : Int) (h : 0 ≤ v ∧ v < 18446744073709551616) (rest : List UInt8) : Rd.num ⟨num v ++ rest, false⟩ = (v, ⟨rest, false⟩) := by
  have hb : ∀ (b : UInt8) (l : List UInt8), Rd.byte ⟨b :: l, false⟩ = (b, ⟨l, false⟩) := fun b l => by
    simp only [Rd.byte, Rd.take, Bool.false_eq_true, if_false, List.length_cons]
    rw [if_neg (by omega)]
    rfl
  unfold num
  by_cases hv : v ≤ 247
  · rw [if_pos hv, List.cons_append, List.nil_append]
    have h1 := byt_small (n := v) (by omega)
    simp only [Rd.num, hb]
    rw [if_pos (by omega), h1]
  · rw [if_neg hv, List.cons_append]
    obtain ⟨m, e, h3, h4⟩ := nby_spec 8 v (by omega) (by omega)
    have hm := nby_le 8 v
    have h1 := byt_small (n := 247 + nby 8 v) (by omega)
    simp only [Rd.num, hb]
    rw [if_neg (by omega)]
    have hn : ((byt (247 + nby 8 v)).toNat : Int) - 247 = nby 8 v := by omega
    have ht : Rd.take ⟨beB (nby 8 v) v ++ rest, false⟩ ((byt (247 + nby 8 v)).toNat - 247) = (beB (nby 8 v) v, ⟨rest, false⟩) := by
      rw [hn]
      have hl := beB_len (nby 8 v) v
      simp only [Rd.take, Bool.false_eq_true, if_false, List.length_append, hl]
      rw [if_neg (by omega), Int.toNat_natCast, List.take_left' hl, List.drop_left' hl]
    rw [ht]
    have hV := beV_beB (nby 8 v) v h.1 (by rw [e]; exact h4)
    simp only [hV]
    rw [if_neg]
    rw [e, beB_cons]
    have hq : 1 ≤ v / 256 ^ m ∧ v / 256 ^ m < 256 := by
      have hp : (0 : Int) < 256 ^ m := Int.pow_pos (by decide)
      refine ⟨?_, ?_⟩
      · rw [Int.le_ediv_iff_mul_le hp]; omega
      · rw [Int.ediv_lt_iff_lt_mul hp, Int.mul_comm, ← Int.pow_succ]; exact h4
    have h5 := byt_small (n := v / 256 ^ m) (by omega)
    simp only [List.length_cons, List.getD_cons_zero]
    rintro (hh | hh | hh)
    · omega
    · rw [hh] at h5; simp at h5; omega
    · omega
theorem read_byts (b : List UInt8) (hb : b.length ≤ 1073741824) (most : Int) (hm : b.length ≤ most) (rest : List UInt8) : Rd.bytes ⟨byts b ++ rest, false⟩ most = (b, ⟨rest, false⟩) := by
  have h := read_num b.length (by omega) (b ++ rest)
  simp only [Rd.bytes, byts, List.append_assoc, h, Bool.false_eq_true, false_or, List.length_append]
  rw [if_neg (by omega)]
  simp only [Rd.take, Bool.false_eq_true, if_false, List.length_append]
  rw [if_neg (by omega), Int.toNat_natCast, List.take_left' rfl, List.drop_left' rfl]
theorem num_prefix {v u : Int} (hv : 0 ≤ v ∧ v < 18446744073709551616) (hu : 0 ≤ u ∧ u < 18446744073709551616) {s : List UInt8} (h : num u = num v ++ s) : u = v := by
  have h1 := read_num u hu []
  have h2 := read_num v hv s
  rw [List.append_nil, h, h2] at h1
  simp only [Prod.mk.injEq] at h1
  exact h1.1.symm

end Go.Proofs.Ytfbipgidlecmkaa
