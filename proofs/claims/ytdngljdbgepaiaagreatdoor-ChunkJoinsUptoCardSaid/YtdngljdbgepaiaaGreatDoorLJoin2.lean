/-
  A head and parts, laid together: the whole; plain facts.
-/
import Derived.Test.YtdngljdbgepaiaaGreatDoorLJoin
set_option linter.unusedSimpArgs false
set_option linter.unusedVariables false
set_option maxRecDepth 200000
set_option maxHeartbeats 4000000
namespace Go.Proofs.YtdngljdbgepaiaaGreatDoor
open Go.Ev

theorem jn_nz {w : Int} {h : T} : ∀ (ps : List T) (i : Nat) (c : Int) (j : Nat), jn w h ps i = some (c, j) → ¬ c = 0 ∧ ∃ p, c = fitC w h j p
  | [], i, c, j, hj => by simp [jn] at hj
  | p :: r, i, c, j, hj => by
    unfold jn at hj
    split at hj
    · exact jn_nz r (i + 1) c j hj
    · rename_i h0
      simp only [Option.some.injEq, Prod.mk.injEq] at hj
      obtain ⟨h1, h2⟩ := hj
      subst h2
      exact ⟨by rw [← h1]; exact h0, p, h1.symm⟩
theorem jn_idx {w : Int} {h : T} : ∀ (ps : List T) (i : Nat) (c : Int) (j : Nat), jn w h ps i = some (c, j) → i ≤ j ∧ j < i + ps.length
  | [], i, c, j, hj => by simp [jn] at hj
  | p :: r, i, c, j, hj => by
    unfold jn at hj
    split at hj
    · have := jn_idx r (i + 1) c j hj
      simp only [List.length_cons]
      omega
    · simp only [Option.some.injEq, Prod.mk.injEq] at hj
      simp only [List.length_cons]
      omega
/-- What is laid together, where all is well. -/
def joinOk (w : Int) (h : T) (ps : List T) : Prop := (1 ≤ w ∧ w ≤ 32) ∧ h.chk = 0 ∧ h.cuts.length = ps.length ∧ h.drk = false ∧ jn w h ps 0 = none ∧ (h.fill ps).1.chk = 0
theorem fill_size : ∀ t : T, t.formed = true → ∀ ps : List T, t.cuts.length ≤ ps.length → (t.fill ps).1.size ≤ t.size + sizeL (ps.take t.cuts.length) := F_ind
  (fun t hf h ps hp => by
    by_cases h3 : t.kind = 3
    · rw [cuts_3 h3] at hp ⊢
      rw [fill_3 h3]
      cases ps with
      | nil => simp at hp
      | cons p r => simp only [List.getD_cons_zero, List.length_cons, List.length_nil, List.take_succ_cons, List.take_zero, sizeL]; omega
    · rw [fill_nil h3 h]
      simp only
      omega)
  fun t l r hf h hl hr il ir ps hp => by
    have h3 : ¬ t.kind = 3 := by rcases kind_two hf h with hk | hk <;> omega
    have hz := size_two h
    rw [cuts_two h3 h, List.length_append] at hp ⊢
    have i1 := il ps (by omega)
    have i2 := ir (l.fill ps).2 (by rw [fill_rest l hl ps (by omega), List.length_drop]; omega)
    rw [fill_two h3 h]
    simp only [T.size, sizeL, List.length_nil]
    have e : sizeL (ps.take (l.cuts.length + r.cuts.length)) = sizeL (ps.take l.cuts.length) + sizeL ((l.fill ps).2.take r.cuts.length) := by
      rw [fill_rest l hl ps (by omega), List.take_add]
      generalize ps.take l.cuts.length = a
      generalize (ps.drop l.cuts.length).take r.cuts.length = b
      induction a with
      | nil => simp [sizeL]
      | cons x a ih => simp only [List.cons_append, sizeL, ih]; omega
    omega
theorem sizeL_take (l : List T) : ∀ n, sizeL (l.take n) ≤ sizeL l := by
  induction l with
  | nil => intro n; simp
  | cons x l ih =>
    intro n
    cases n with
    | zero => simp [sizeL]
    | succ n =>
      have := ih n
      simp only [List.take_succ_cons, sizeL]
      omega
/-! ### What is laid together has the head's digest -/
theorem drk_two {t l r : T} (h : t.kids = [l, r]) : t.drk = (decide (t.kind = 2) || (l.drk || r.drk)) := by
  rw [drk_eq, h]
  simp only [drkL, Bool.or_false]
end Go.Proofs.YtdngljdbgepaiaaGreatDoor
