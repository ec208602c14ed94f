/-
  The order of strings of bytes.
-/
import Derived.Test.YtfihodpdjpcpfaaIr
set_option linter.unusedSimpArgs false
set_option linter.unusedVariables false
set_option maxRecDepth 200000
set_option maxHeartbeats 4000000
namespace Go.Proofs.Ytfihodpdjpcpfaa
open Go.Ev

/-- How two compare. -/
abbrev cmp (a b : List UInt8) : Int := Lib.compareBytes a b
theorem cmp_range : ∀ (a b : List UInt8), cmp a b = -1 ∨ cmp a b = 0 ∨ cmp a b = 1
  | [], [] => by simp [cmp, Lib.compareBytes]
  | [], _ :: _ => by simp [cmp, Lib.compareBytes]
  | _ :: _, [] => by simp [cmp, Lib.compareBytes]
  | x :: a, y :: b => by
    have := cmp_range a b
    simp only [cmp, Lib.compareBytes] at *
    split
    · simp
    · split
      · simp
      · exact this
theorem cmp_self : ∀ (a : List UInt8), cmp a a = 0
  | [] => rfl
  | x :: a => by
    have := cmp_self a
    have h : ¬ x < x := by simp [UInt8.lt_iff_toNat_lt]
    simp only [cmp, Lib.compareBytes, h, if_false] at *
    exact this
theorem cmp_swap : ∀ (a b : List UInt8), cmp b a = - cmp a b
  | [], [] => rfl
  | [], _ :: _ => rfl
  | _ :: _, [] => rfl
  | x :: a, y :: b => by
    have := cmp_swap a b
    simp only [cmp, Lib.compareBytes] at *
    have h1 := UInt8.lt_iff_toNat_lt (a := x) (b := y)
    have h2 := UInt8.lt_iff_toNat_lt (a := y) (b := x)
    by_cases c1 : x < y
    · have c2 : ¬ y < x := by rw [h2]; rw [h1] at c1; omega
      simp [c1, c2]
    · by_cases c2 : y < x
      · simp [c1, c2]
      · simp [c1, c2, this]
theorem cmp_eq : ∀ (a b : List UInt8), cmp a b = 0 → a = b
  | [], [], _ => rfl
  | [], _ :: _, h => by simp [cmp, Lib.compareBytes] at h
  | _ :: _, [], h => by simp [cmp, Lib.compareBytes] at h
  | x :: a, y :: b, h => by
    simp only [cmp, Lib.compareBytes] at h
    have h1 := UInt8.lt_iff_toNat_lt (a := x) (b := y)
    have h2 := UInt8.lt_iff_toNat_lt (a := y) (b := x)
    by_cases c1 : x < y
    · simp [c1] at h
    · by_cases c2 : y < x
      · simp [c1, c2] at h
      · simp only [c1, c2, if_false] at h
        have : x = y := UInt8.toNat_inj.1 (by rw [h1] at c1; rw [h2] at c2; omega)
        rw [this, cmp_eq a b h]
theorem cmp_trans : ∀ (a b c : List UInt8), cmp a b ≤ 0 → cmp b c ≤ 0 → cmp a c ≤ 0 ∧ (cmp a c = 0 → cmp a b = 0 ∧ cmp b c = 0)
  | [], [], [], _, _ => by simp [cmp, Lib.compareBytes]
  | [], [], _ :: _, _, _ => by simp [cmp, Lib.compareBytes]
  | [], _ :: _, [], _, h => by simp [cmp, Lib.compareBytes] at h
  | [], _ :: _, _ :: _, _, _ => by simp [cmp, Lib.compareBytes]
  | _ :: _, [], _, h, _ => by simp [cmp, Lib.compareBytes] at h
  | _ :: _, _ :: _, [], _, h => by simp [cmp, Lib.compareBytes] at h
  | x :: a, y :: b, z :: c, h, h' => by
    have ih := cmp_trans a b c
    simp only [cmp, Lib.compareBytes] at *
    have h1 := UInt8.lt_iff_toNat_lt (a := x) (b := y)
    have h2 := UInt8.lt_iff_toNat_lt (a := y) (b := x)
    have h3 := UInt8.lt_iff_toNat_lt (a := y) (b := z)
    have h4 := UInt8.lt_iff_toNat_lt (a := z) (b := y)
    have h5 := UInt8.lt_iff_toNat_lt (a := x) (b := z)
    have h6 := UInt8.lt_iff_toNat_lt (a := z) (b := x)
    by_cases c1 : x < y
    · by_cases c3 : y < z
      · have c5 : x < z := by rw [h5]; rw [h1] at c1; rw [h3] at c3; omega
        simp [c1, c3, c5]
      · by_cases c4 : z < y
        · simp [c3, c4] at h'
        · have c5 : x < z := by rw [h5]; rw [h1] at c1; rw [h3] at c3; rw [h4] at c4; omega
          simp [c5]
    · by_cases c2 : y < x
      · simp [c1, c2] at h
      · by_cases c3 : y < z
        · have c5 : x < z := by rw [h5]; rw [h1] at c1; rw [h2] at c2; rw [h3] at c3; omega
          simp [c5]
        · by_cases c4 : z < y
          · simp [c3, c4] at h'
          · have c5 : ¬ x < z := by rw [h5]; rw [h1] at c1; rw [h2] at c2; rw [h3] at c3; rw [h4] at c4; omega
            have c6 : ¬ z < x := by rw [h6]; rw [h1] at c1; rw [h2] at c2; rw [h3] at c3; rw [h4] at c4; omega
            simp only [c1, c2, c3, c4, c5, c6, if_false] at *
            exact ih h h'
theorem less_cmp : ∀ (a b : List UInt8), Op.bytesLess a b = decide (cmp a b < 0)
  | [], [] => rfl
  | [], _ :: _ => rfl
  | _ :: _, [] => rfl
  | x :: a, y :: b => by
    have ih := less_cmp a b
    have h1 := UInt8.lt_iff_toNat_lt (a := x) (b := y)
    have h2 := UInt8.lt_iff_toNat_lt (a := y) (b := x)
    simp only [cmp, Lib.compareBytes] at *
    by_cases c1 : x < y
    · simp [Op.bytesLess, c1]
    · by_cases c2 : y < x
      · have : x ≠ y := fun h => by subst h; exact c1 c2
        simp [Op.bytesLess, c1, c2, this]
      · have : x = y := UInt8.toNat_inj.1 (by rw [h1] at c1; rw [h2] at c2; omega)
        subst this
        simp [Op.bytesLess, c1, ih]
theorem eq_cmp (a b : List UInt8) : (a == b) = decide (cmp a b = 0) := by
  by_cases h : a = b
  · subst h; simp [cmp_self]
  · have : cmp a b ≠ 0 := fun h2 => h (cmp_eq a b h2)
    simp [h, this]
theorem beq_cmp {a b : List UInt8} (h : a ≠ b) : (a == b) = false := by simp [h]
/-- Below the next one. -/
theorem cmp_next : ∀ (a b : List UInt8), cmp a (b ++ [0]) < 0 ↔ cmp a b ≤ 0
  | [], [] => by simp [cmp, Lib.compareBytes]
  | [], _ :: _ => by simp [cmp, Lib.compareBytes]
  | [x], [] => by
    have : ¬ x < 0 := by simp [UInt8.lt_iff_toNat_lt]
    simp [cmp, Lib.compareBytes, this]
    try (split <;> decide)
  | x :: z :: a, [] => by
    have : ¬ x < 0 := by simp [UInt8.lt_iff_toNat_lt]
    simp [cmp, Lib.compareBytes, this]
    try (split <;> decide)
  | x :: a, y :: b => by
    have ih := cmp_next a b
    simp only [cmp, Lib.compareBytes, List.cons_append] at *
    by_cases c1 : x < y
    · simp [c1]
    · by_cases c2 : y < x
      · simp [c1, c2]
      · simp only [c1, c2, if_false]
        exact ih
theorem bytes_Compare_ev (a b : List UInt8) : Ev tab G0 n_bytes_Compare [.sl true (eB a), .sl true (eB b)] [] = some ([i64 (cmp a b)], []) := by
  refine Ev_run t_bytes_Compare rfl rfl ?_
  simp (maxSteps := 1000000) (disch := first | omega | (simp only [List.length_cons, List.length_nil, List.length_append, List.length_map, List.length_take, List.length_drop]; omega)) only [go_sem, ↓reduceIte, Nat.reduceSub, Nat.reduceAdd, Nat.reduceMul, Nat.reduceLeDiff, Nat.reduceLT, Nat.reduceEqDiff, Nat.reduceBEq, Int.reduceLE, Int.reduceLT, Int.reduceEq, Int.reduceNeg, Int.reduceAdd, Int.reduceSub, Int.reduceMul, Int.reduceToNat, i_bytes_Compare]

end Go.Proofs.Ytfihodpdjpcpfaa
