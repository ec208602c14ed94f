/-
  The tables of the document are those of the program.
-/
import Derived.Test.YtdngljdbgepaiaaGreatDoorLMade
set_option linter.unusedSimpArgs false
set_option linter.unusedVariables false
set_option maxRecDepth 200000
set_option maxHeartbeats 4000000
namespace Go.Proofs.YtdngljdbgepaiaaGreatDoor
open Go.Ev

def rkA : List Int → AV
  | [] => .nilsl
  | b :: l => .row 3 (l.length + 1)
def rkO : List Int → Option Ev.Obj
  | [] => none
  | b :: l => some (.row ty_uint32 1 true false (eI .u32 (b :: l)))
theorem rkA_ne {l : List Int} (h : l ≠ []) : rkA l = .row 3 l.length := by cases l with | nil => exact absurd rfl h | cons b l => rfl
theorem rkO_ne {l : List Int} (h : l ≠ []) : rkO l = some (.row ty_uint32 1 true false (eI .u32 l)) := by cases l with | nil => exact absurd rfl h | cons b l => rfl
def rootsK (l : List Int) : Nat → Nat → List Int → List Int
  | 0, _, o => o
  | n + 1, i, o => rootsK l n (i + 1) (o ++ [rootP (l.getD i 0) true])
theorem made_K (l : List Int) (hl : l.length = 64) : ∀ (n i : Nat) (o : List Int), n + i = 64 → o.length = i → (rootsK l n i o).length = 64 → L_ref01_Made_2 (s_ref01_Made_K2 (.ptr 0 0) (.ptr 1 0) (.row 2 64) (i64 i) [some oZ, some (.var [rkA o, u32 0, u32 0, u32 0, u32 0, u32 0, u32 0, u32 0, u32 0]), rowQ l, rkO o]) = some (.exit 4, s_ref01_Made_J4 (.ptr 0 0) (.ptr 1 0) (.row 2 64) [some oZ, some (.var [.row 3 64, u32 0, u32 0, u32 0, u32 0, u32 0, u32 0, u32 0, u32 0]), rowQ l, some (.row ty_uint32 1 true false (eI .u32 (rootsK l n i o)))])
  | 0, i, o, h, ho, hr => by
    obtain rfl : i = 64 := by omega
    have hne : o ≠ [] := by rintro rfl; simp at ho
    rw [L_ref01_Made_2_eq, rkA_ne hne, rkO_ne hne]
    simp (maxSteps := 1000000) (disch := first | omega | (simp only [lens, List.length_map]; omega)) only [go_sem, ↓reduceIte, Nat.reduceSub, Nat.reduceAdd, Nat.reduceMul, Nat.reduceLeDiff, Nat.reduceLT, Nat.reduceEqDiff, Nat.reduceBEq, Int.reduceLE, Int.reduceLT, Int.reduceEq, Int.reduceNeg, Int.reduceAdd, Int.reduceSub, Int.reduceMul, Int.reduceToNat, i_ref01_Made_b2, rootsK, ho]
  | n + 1, i, o, h, ho, hr => by
    have ih := made_K l hl n (i + 1) (o ++ [rootP (l.getD i 0) true]) (by omega) (by simp [ho]) hr
    have h1 := ref01_root_ev (l.getD i 0) true
    have hl2 : (o ++ [rootP (l.getD i 0) true]).length = i + 1 := by simp [ho]
    have es := eI_snoc (k := .u32) (l := o) (n := rootP (l.getD i 0) true)
    rw [rkA_ne (by simp), rkO_ne (by simp), hl2] at ih
    rw [L_ref01_Made_2_eq, rootsK]
    generalize rootsK l n (i + 1) (o ++ [rootP (l.getD i 0) true]) = z at *
    generalize rootP (l.getD i 0) true = x at *
    try simp (maxSteps := 1000000) (disch := first | omega | (simp only [lens, List.length_map]; omega)) only [go_sem, ↓reduceIte, Nat.reduceSub, Nat.reduceAdd, Nat.reduceMul, Nat.reduceLeDiff, Nat.reduceLT, Nat.reduceEqDiff, Nat.reduceBEq, Int.reduceLE, Int.reduceLT, Int.reduceEq, Int.reduceNeg, Int.reduceAdd, Int.reduceSub, Int.reduceMul, Int.reduceToNat] at h1
    by_cases hne : o = []
    · subst hne
      have e1 := eI_one (k := .u32) (n := x)
      have e4 : ([] ++ [x] : List Int) = [x] := rfl
      have e5 : (eI .u32 [x]).isEmpty = false := rfl
      obtain rfl : i = 0 := by simp at ho; omega
      rw [e4] at ih
      have e6 : ((0 + 1 : Nat) : Int) = 1 := rfl
      have e7 : ((0 : Nat) : Int) = 0 := rfl
      rw [e6] at ih
      try simp (maxSteps := 1000000) (disch := first | omega | (simp only [lens, List.length_map]; omega)) only [go_sem, ↓reduceIte, Nat.reduceSub, Nat.reduceAdd, Nat.reduceMul, Nat.reduceLeDiff, Nat.reduceLT, Nat.reduceEqDiff, Nat.reduceBEq, Int.reduceLE, Int.reduceLT, Int.reduceEq, Int.reduceNeg, Int.reduceAdd, Int.reduceSub, Int.reduceMul, Int.reduceToNat] at ih
      simp (maxSteps := 1000000) (disch := first | omega | (simp only [lens, List.length_map]; omega)) only [go_sem, ↓reduceIte, Nat.reduceSub, Nat.reduceAdd, Nat.reduceMul, Nat.reduceLeDiff, Nat.reduceLT, Nat.reduceEqDiff, Nat.reduceBEq, Int.reduceLE, Int.reduceLT, Int.reduceEq, Int.reduceNeg, Int.reduceAdd, Int.reduceSub, Int.reduceMul, Int.reduceToNat, i_ref01_Made_b2, rkA, rkO, h1, ih, e1, e5, e7, hl]
    · rw [rkA_ne hne, rkO_ne hne] at *
      generalize o ++ [x] = o2 at *
      try simp (maxSteps := 1000000) (disch := first | omega | (simp only [lens, List.length_map]; omega)) only [go_sem, ↓reduceIte, Nat.reduceSub, Nat.reduceAdd, Nat.reduceMul, Nat.reduceLeDiff, Nat.reduceLT, Nat.reduceEqDiff, Nat.reduceBEq, Int.reduceLE, Int.reduceLT, Int.reduceEq, Int.reduceNeg, Int.reduceAdd, Int.reduceSub, Int.reduceMul, Int.reduceToNat] at ih
      simp (maxSteps := 1000000) (disch := first | omega | (simp only [lens, List.length_map]; omega)) only [go_sem, ↓reduceIte, Nat.reduceSub, Nat.reduceAdd, Nat.reduceMul, Nat.reduceLeDiff, Nat.reduceLT, Nat.reduceEqDiff, Nat.reduceBEq, Int.reduceLE, Int.reduceLT, Int.reduceEq, Int.reduceNeg, Int.reduceAdd, Int.reduceSub, Int.reduceMul, Int.reduceToNat, i_ref01_Made_b2, h1, ih, es, ho, hl2, hl]
theorem made_H (l k : List Int) (hl : l.length = 64) (hk : k.length = 64) : L_ref01_Made_3 (s_ref01_Made_K3 (.ptr 0 0) (.ptr 1 0) (.row 2 64) (i64 0) [some oZ, some (.var [.row 3 64, u32 0, u32 0, u32 0, u32 0, u32 0, u32 0, u32 0, u32 0]), rowQ l, some (.row ty_uint32 1 true false (eI .u32 k))]) = some (.exit 6, s_ref01_Made_J6 (.ptr 0 0) (.ptr 1 0) [some oZ, some (.var [.row 3 64, u32 (rootP (l.getD 0 0) false), u32 (rootP (l.getD 1 0) false), u32 (rootP (l.getD 2 0) false), u32 (rootP (l.getD 3 0) false), u32 (rootP (l.getD 4 0) false), u32 (rootP (l.getD 5 0) false), u32 (rootP (l.getD 6 0) false), u32 (rootP (l.getD 7 0) false)]), none, some (.row ty_uint32 1 true false (eI .u32 k))]) := by
  have h1 := fun p => ref01_root_ev p false
  simp (maxSteps := 1000000) (disch := first | omega | (simp only [lens, List.length_map]; omega)) only [go_sem, ↓reduceIte, Nat.reduceSub, Nat.reduceAdd, Nat.reduceMul, Nat.reduceLeDiff, Nat.reduceLT, Nat.reduceEqDiff, Nat.reduceBEq, Int.reduceLE, Int.reduceLT, Int.reduceEq, Int.reduceNeg, Int.reduceAdd, Int.reduceSub, Int.reduceMul, Int.reduceToNat, L_ref01_Made_3_eq, i_ref01_Made_b3, h1, hl, hk]
/-- The primes. -/
def primeL : List Int := primes 310 2 []
theorem primeL_eq : primeL = [2, 3, 5, 7, 11, 13, 17, 19, 23, 29, 31, 37, 41, 43, 47, 53, 59, 61, 67, 71, 73, 79, 83, 89, 97, 101, 103, 107, 109, 113, 127, 131, 137, 139, 149, 151, 157, 163, 167, 173, 179, 181, 191, 193, 197, 199, 211, 223, 227, 229, 233, 239, 241, 251, 257, 263, 269, 271, 277, 281, 283, 293, 307, 311] := by kernel_rfl
theorem made_av : Ev tab G0 n_ref01_Made [] [] = some ([.agg [.sl true (eI .u32 (rootsK primeL 64 0 [])), u32 (rootP (primeL.getD 0 0) false), u32 (rootP (primeL.getD 1 0) false), u32 (rootP (primeL.getD 2 0) false), u32 (rootP (primeL.getD 3 0) false), u32 (rootP (primeL.getD 4 0) false), u32 (rootP (primeL.getD 5 0) false), u32 (rootP (primeL.getD 6 0) false), u32 (rootP (primeL.getD 7 0) false)]], []) := by
  have hl : primeL.length = 64 := by rw [primeL_eq]; rfl
  have hrl : ∀ (l : List Int) (n i : Nat) (o : List Int), (rootsK l n i o).length = o.length + n := by
    intro l n
    induction n with
    | zero => intro i o; rfl
    | succ n ih => intro i o; rw [rootsK, ih]; simp; omega
  obtain ⟨_, h1⟩ := made_out 310 2 [] (by simp) (by decide) (by decide) (by simp) hl
  have h2 := made_K primeL hl 64 0 [] rfl rfl (by rw [hrl]; rfl)
  have h3 := made_H primeL (rootsK primeL 64 0 []) hl (by rw [hrl]; rfl)
  have hkl := hrl primeL 64 0 []
  have e0 : ((0 : Nat) : Int) = 0 := rfl
  have e64 : (([] : List Int).length + 64) = 64 := rfl
  rw [e0] at h2
  rw [e64] at hkl
  rw [← primeL] at h1
  generalize rootsK primeL 64 0 [] = k at *
  generalize rootP (primeL.getD 0 0) false = x0 at *
  generalize rootP (primeL.getD 1 0) false = x1 at *
  generalize rootP (primeL.getD 2 0) false = x2 at *
  generalize rootP (primeL.getD 3 0) false = x3 at *
  generalize rootP (primeL.getD 4 0) false = x4 at *
  generalize rootP (primeL.getD 5 0) false = x5 at *
  generalize rootP (primeL.getD 6 0) false = x6 at *
  generalize rootP (primeL.getD 7 0) false = x7 at *
  generalize primeL = l at *
  try simp (maxSteps := 1000000) (disch := first | omega | (simp only [lens, List.length_map]; omega)) only [go_sem, ↓reduceIte, Nat.reduceSub, Nat.reduceAdd, Nat.reduceMul, Nat.reduceLeDiff, Nat.reduceLT, Nat.reduceEqDiff, Nat.reduceBEq, Int.reduceLE, Int.reduceLT, Int.reduceEq, Int.reduceNeg, Int.reduceAdd, Int.reduceSub, Int.reduceMul, Int.reduceToNat, rqA, rqO] at h1
  try simp (maxSteps := 1000000) (disch := first | omega | (simp only [lens, List.length_map]; omega)) only [go_sem, ↓reduceIte, Nat.reduceSub, Nat.reduceAdd, Nat.reduceMul, Nat.reduceLeDiff, Nat.reduceLT, Nat.reduceEqDiff, Nat.reduceBEq, Int.reduceLE, Int.reduceLT, Int.reduceEq, Int.reduceNeg, Int.reduceAdd, Int.reduceSub, Int.reduceMul, Int.reduceToNat, rkA, rkO] at h2
  try simp (maxSteps := 1000000) (disch := first | omega | (simp only [lens, List.length_map]; omega)) only [go_sem, ↓reduceIte, Nat.reduceSub, Nat.reduceAdd, Nat.reduceMul, Nat.reduceLeDiff, Nat.reduceLT, Nat.reduceEqDiff, Nat.reduceBEq, Int.reduceLE, Int.reduceLT, Int.reduceEq, Int.reduceNeg, Int.reduceAdd, Int.reduceSub, Int.reduceMul, Int.reduceToNat] at h3
  refine Ev_run t_ref01_Made rfl rfl ?_
  simp (maxSteps := 1000000) (disch := first | omega | (simp only [lens, List.length_map]; omega)) only [go_sem, ↓reduceIte, Nat.reduceSub, Nat.reduceAdd, Nat.reduceMul, Nat.reduceLeDiff, Nat.reduceLT, Nat.reduceEqDiff, Nat.reduceBEq, Int.reduceLE, Int.reduceLT, Int.reduceEq, Int.reduceNeg, Int.reduceAdd, Int.reduceSub, Int.reduceMul, Int.reduceToNat, i_ref01_Made, h1, h2, h3, hl, hkl]

end Go.Proofs.YtdngljdbgepaiaaGreatDoor
