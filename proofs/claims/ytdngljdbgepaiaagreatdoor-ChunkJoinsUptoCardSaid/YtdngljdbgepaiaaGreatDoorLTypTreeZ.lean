/-
  Trees that come in.
-/
import Derived.Test.YtdngljdbgepaiaaGreatDoorLTyp
import Derived.Test.YtdngljdbgepaiaaGreatDoorLTree
import Derived.Test.YtdngljdbgepaiaaGreatDoorRwZ
set_option linter.unusedSimpArgs false
set_option linter.unusedVariables false
set_option maxRecDepth 200000
set_option maxHeartbeats 4000000
namespace Go.Proofs.YtdngljdbgepaiaaGreatDoor
open Go.Ev

theorem typ_tree : ∀ {n : Nat} {es : List C}, TypC Tryz.prog n 25 es → ∃ t : T, es = t.cells := by
  intro n
  induction n using Nat.strongRecOn with
  | ind n ih =>
    intro es h
    cases n with
    | zero => exact h.elim
    | succ n =>
      obtain ⟨x, y, z, u, v, rfl, h1, h2, h3, h4, h5⟩ := typ_5 Tryz.underlying25 (a := 3) (b := 22) (c := 22) (d := 22) (e := 23) (by kernel_rfl) (by kernel_rfl) h
      obtain ⟨i, rfl, _⟩ := typ_int1 Tryz.underlying3 h1
      obtain ⟨a, rfl⟩ := typ_bytes1 Tryz.underlying22 Tryz.underlying5 h2
      obtain ⟨b, rfl⟩ := typ_bytes1 Tryz.underlying22 Tryz.underlying5 h3
      obtain ⟨c, rfl⟩ := typ_bytes1 Tryz.underlying22 Tryz.underlying5 h4
      cases n with
      | zero => exact h5.elim
      | succ m =>
        simp only [TypC, Tryz.underlying23] at h5
        obtain ⟨l, hl, hm⟩ := h5
        have hv := one_inj hl
        subst hv
        obtain ⟨ds, rfl, _⟩ := list_of (f := T.cells) (p := fun _ => True) (l := l) fun x hx => by
          obtain ⟨t, ht⟩ := ih m (by omega) (hm x hx).2
          exact ⟨t, ht, trivial⟩
        exact ⟨.mk i a b c ds, by rw [cells_eq, eT_map]; rfl⟩
mutual
theorem tree_bulk : ∀ t : T, t.size ≤ cBL t.cells
  | .mk k a b c l => by
    have h := trees_bulk l
    simp only [T.cells, T.size, cBL, cB, cBLL_eB]
    omega
theorem trees_bulk : ∀ l : List T, sizeL l ≤ cBLL (eT l)
  | [] => by simp only [sizeL, eT]; omega
  | t :: l => by
    have h1 := tree_bulk t
    have h2 := trees_bulk l
    simp only [sizeL, eT, cBLL]
    omega
end

end Go.Proofs.YtdngljdbgepaiaaGreatDoor
