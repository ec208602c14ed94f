/-
  Lists of trees that come in.
-/
import Derived.Test.YtdngljdbgepaiaaGreatDoorLTypTreeZ
set_option linter.unusedSimpArgs false
set_option linter.unusedVariables false
set_option maxRecDepth 200000
set_option maxHeartbeats 4000000
namespace Go.Proofs.YtdngljdbgepaiaaGreatDoor
open Go.Ev

theorem typ_trees {n : Nat} {es : List C} (h : TypC Tryz.prog n 23 es) : ∃ l : List T, es = [.sl (eT l)] := by
  cases n with
  | zero => exact h.elim
  | succ n =>
    simp only [TypC, Tryz.underlying23] at h
    obtain ⟨l, rfl, hl⟩ := h
    obtain ⟨ds, rfl, _⟩ := list_of (f := T.cells) (p := fun _ => True) (l := l) fun x hx => by
      obtain ⟨t, ht⟩ := typ_tree (hl x hx).2
      exact ⟨t, ht, trivial⟩
    exact ⟨ds, by rw [eT_map]⟩

end Go.Proofs.YtdngljdbgepaiaaGreatDoor
