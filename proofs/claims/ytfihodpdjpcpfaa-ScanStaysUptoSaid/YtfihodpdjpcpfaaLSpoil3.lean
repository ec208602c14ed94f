/-
  The law's code, in pieces.
-/
import Derived.Test.YtfihodpdjpcpfaaLSpoil2
import Derived.Test.YtfihodpdjpcpfaaOk
set_option linter.unusedSimpArgs false
set_option linter.unusedVariables false
set_option maxRecDepth 200000
set_option maxHeartbeats 4000000
namespace Go.Proofs.Ytfihodpdjpcpfaa
open Go.Ev

theorem trIR_seq {P : Program} {c : Code} {x y x' y' : IR} (h : trIR P c (.seq x y) = some (.seq x' y')) : ∃ a b, c = .seq a b ∧ trIR P a x = some x' ∧ trIR P b y = some y' := by
  cases c <;> simp only [trIR] at h <;> try (simp at h; done)
  rename_i a b
  split at h
  · rename_i x1 y1 h1 h2
    injection h with h
    injection h with h3 h4
    subst h3 h4
    exact ⟨a, b, rfl, h1, h2⟩
  · simp at h
theorem trIR_cond {P : Program} {c : Code} {g g' : O} {x y x' y' : IR} (h : trIR P c (.cond g x y) = some (.cond g' x' y')) : ∃ k a b, c = .cond k a b ∧ g' = trO k ∧ trIR P a x = some x' ∧ trIR P b y = some y' := by
  cases c <;> simp only [trIR] at h <;> try (simp at h; done)
  rename_i k a b
  split at h
  · rename_i x1 y1 h1 h2
    injection h with h
    injection h with h0 h3 h4
    subst h0 h3 h4
    exact ⟨k, a, b, rfl, rfl, h1, h2⟩
  · simp at h
theorem trIR_block {P : Program} {c : Code} {i i' : Nat} {k k' : List Bool} {x x' : IR} (h : trIR P c (.block i k x) = some (.block i' k' x')) : ∃ a, c = .block i' a ∧ k' = k ∧ trIR P a x = some x' := by
  cases c <;> simp only [trIR] at h <;> try (simp at h; done)
  rename_i j a
  obtain ⟨x1, h1, h2⟩ := Option.map_eq_some_iff.1 h
  injection h2 with h3 h4 h5
  subst h3 h4 h5
  exact ⟨a, rfl, rfl, h1⟩
theorem trIR_loop {P : Program} {c : Code} {k k' : List Bool} {x x' : IR} (h : trIR P c (.loop k x) = some (.loop k' x')) : ∃ a, c = .loop a ∧ k' = k ∧ trIR P a x = some x' := by
  cases c <;> simp only [trIR] at h <;> try (simp at h; done)
  rename_i a
  obtain ⟨x1, h1, h2⟩ := Option.map_eq_some_iff.1 h
  injection h2 with h3 h4
  subst h3 h4
  exact ⟨a, rfl, rfl, h1⟩
theorem trIR_reg {P : Program} {c : Code} {p p' : List (Nat × Nat)} {l l' : List Opr} (h : trIR P c (.reg p l) = some (.reg p' l')) : ∃ id ops draw, c = .region id ops draw ∧ p' = p ∧ trReg P ops draw p l = some l' := by
  cases c <;> simp only [trIR] at h <;> try (simp at h; done)
  rename_i id ops draw
  obtain ⟨x1, h1, h2⟩ := Option.map_eq_some_iff.1 h
  injection h2 with h3 h4
  subst h3 h4
  exact ⟨id, ops, draw, rfl, rfl, h1⟩
theorem trIR_exit {P : Program} {c : Code} {i i' : Nat} {k k' : List Bool} (h : trIR P c (.exit i k) = some (.exit i' k')) : c = .exit i' ∧ k' = k := by
  cases c <;> simp only [trIR] at h <;> try (simp at h; done)
  injection h with h
  injection h with h1 h2
  subst h1 h2
  exact ⟨rfl, rfl⟩
/-- A place in a code. -/
def cAt : Code → List Nat → Code
  | c, [] => c
  | .seq a b, i :: p => if i = 0 then cAt a p else cAt b p
  | .cond _ a b, i :: p => if i = 0 then cAt a p else cAt b p
  | .block _ a, _ :: p => cAt a p
  | .loop a, _ :: p => cAt a p
  | c, _ => c
def rOps : Code → Array Oper
  | .region _ ops _ => ops
  | _ => #[]
def rDraw : Code → Bool
  | .region _ _ d => d
  | _ => false
noncomputable def bodyC : Code := match Try.f3.body with
  | some c => c
  | none => .skip
theorem bodyC_is : Try.f3.body = some bodyC := by kernel_rfl
/-- The region that writes. -/
noncomputable def ops12 : Array Oper := rOps (cAt bodyC [1, 1, 1, 1, 1, 1, 0, 1, 0, 0, 1, 0, 0, 1, 0, 0, 1, 0, 0])
theorem ops12_size : ops12.size = 17 := by kernel_rfl
theorem draw12 : rDraw (cAt bodyC [1, 1, 1, 1, 1, 1, 0, 1, 0, 0, 1, 0, 0, 1, 0, 0, 1, 0, 0]) = true := by kernel_rfl
theorem guards12 : (ops12.toList.all fun o => o.guard.isNone) = true := by kernel_rfl
noncomputable def store12 : Oper := ops12.toList.getLastD default

end Go.Proofs.Ytfihodpdjpcpfaa
