/-
  A tree's digest.
-/
import Derived.Test.YtebiajdkgpcidaaDoorLTree5
import Derived.Test.YtebiajdkgpcidaaDoorLDig
set_option linter.unusedSimpArgs false
set_option linter.unusedVariables false
set_option maxRecDepth 200000
set_option maxHeartbeats 4000000
namespace Go.Proofs.YtebiajdkgpcidaaDoor
open Go.Ev

def digN (w k : Int) (a b c : List UInt8) (ds : List (Option (List UInt8))) : Option (List UInt8) :=
  if k = 0 then some (dg w [3]) else if k = 3 then (if (c.length : Int) = w then some c else none) else
  let v := if k = 1 then dg w (0 :: b) else c
  if (v.length : Int) = w then (match ds with
    | [some x, some y] => some (dg w (nodeP x (dg w (pairP a v)) y))
    | _ => none) else none
mutual
def T.dig (w : Int) : T → Option (List UInt8)
  | .mk k a b c l => digN w k a b c (digL w l)
def digL (w : Int) : List T → List (Option (List UInt8))
  | [] => []
  | t :: l => t.dig w :: digL w l
end
theorem okT_of {t : T} (h : t.formed = true) : okT t := by
  rw [formed_eq] at h
  simp only [Bool.and_eq_true, decide_eq_true_eq] at h
  exact h.1
theorem dig_eq (w : Int) (t : T) : t.dig w = digN w t.kind t.key t.value t.digest (digL w t.kids) := by cases t; simp only [T.dig]; rfl
theorem dig_0 {w : Int} {t : T} (h : t.kind = 0) : t.dig w = some (dg w [3]) := by rw [dig_eq, digN, if_pos h]
theorem dig_3 {w : Int} {t : T} (h : t.kind = 3) : t.dig w = if (t.digest.length : Int) = w then some t.digest else none := by rw [dig_eq, digN, if_neg (by omega), if_pos h]
theorem dig_1 {w : Int} {t l r : T} (hw : 1 ≤ w ∧ w ≤ 32) (h : t.kind = 1) (hk : t.kids = [l, r]) : t.dig w = match l.dig w, r.dig w with
    | some x, some y => some (dg w (nodeP x (dg w (pairP t.key (dg w (0 :: t.value)))) y))
    | _, _ => none := by
  rw [dig_eq, digN, if_neg (by omega), if_neg (by omega), hk]
  simp only [digL, if_pos h]
  rw [if_pos (by rw [dg_len _ _ (by omega)]; omega)]
  cases l.dig w <;> cases r.dig w <;> rfl
theorem dig_2 {w : Int} {t l r : T} (h : t.kind = 2) (hk : t.kids = [l, r]) : t.dig w = if (t.digest.length : Int) = w then (match l.dig w, r.dig w with
    | some x, some y => some (dg w (nodeP x (dg w (pairP t.key t.digest)) y))
    | _, _ => none) else none := by
  have h1 : ¬ t.kind = 1 := by omega
  rw [dig_eq, digN, if_neg (by omega), if_neg (by omega), hk]
  simp only [digL, if_neg h1]
  split
  · cases l.dig w <;> cases r.dig w <;> rfl
  · rfl
theorem dig_len (w : Int) (hw : 1 ≤ w ∧ w ≤ 32) : ∀ t : T, t.formed = true → ∀ d, t.dig w = some d → (d.length : Int) = w := fun t hf d h => by
  have hd : ∀ b, ((dg w b).length : Int) = w := fun b => by rw [dg_len _ _ (by omega)]; omega
  rw [dig_eq, digN] at h
  split at h
  · simp only [Option.some.injEq] at h
    rw [← h]; exact hd _
  · split at h
    · split at h
      · simp only [Option.some.injEq] at h
        rw [← h]; assumption
      · cases h
    · by_cases hv : ((if t.kind = 1 then dg w (0 :: t.value) else t.digest).length : Int) = w
      · rw [if_pos hv] at h
        generalize digL w t.kids = ds at h
        match ds, h with
        | [some x, some y], h =>
          simp only [Option.some.injEq] at h
          rw [← h]; exact hd _
      · rw [if_neg hv] at h
        cases h
def dgV : Option (List UInt8) → List UInt8
  | some d => d
  | none => []
def dgE : Option (List UInt8) → AV
  | some _ => .s .nilIface
  | none => errA 3
/-- What the document's digest is of a tree that has none: its own. -/
def rgV (w : Int) (t : T) : List UInt8 := if t.kind = 3 then t.digest else dgV (t.dig w)
theorem rgV_some {w : Int} {t : T} {d : List UInt8} (h : t.dig w = some d) : rgV w t = d := by
  unfold rgV
  split
  · rename_i hk
    rw [dig_3 hk] at h
    split at h
    · simpa using h
    · cases h
  · rw [h]; rfl
end Go.Proofs.YtebiajdkgpcidaaDoor
