/-
  Lists of changes that come in.
-/
import Derived.Test.YtebiajdkgpcidaaLTyp
import Derived.Test.YtebiajdkgpcidaaLHold
import Derived.Test.YtebiajdkgpcidaaRw
set_option linter.unusedSimpArgs false
set_option linter.unusedVariables false
set_option maxRecDepth 200000
set_option maxHeartbeats 4000000
namespace Go.Proofs.Ytebiajdkgpcidaa
open Go.Ev

theorem typ_deeds {n : Nat} {es : List C} (h : TypC Try.prog n 76 es) : ∃ l : List Deed, es = [.sl (eD l)] := by
  cases n with
  | zero => exact h.elim
  | succ n =>
    simp only [TypC, Try.underlying76] at h
    obtain ⟨l, rfl, hl⟩ := h
    obtain ⟨ds, rfl, _⟩ := list_of (f := fun d : Deed => [C.sl (eB d.k), .sl (eB d.v), .sc (.bool d.out)]) (p := fun _ => True) (l := l) fun x hx => by
      obtain ⟨a, b, c, m, rfl, h1, h2, h3⟩ := typ_3 Try.underlying78 (a := 22) (b := 22) (c := 4) (by kernel_rfl) (by kernel_rfl) (hl x hx).2
      obtain ⟨f, rfl⟩ := typ_bytes1 Try.underlying22 Try.underlying5 h1
      obtain ⟨t, rfl⟩ := typ_bytes1 Try.underlying22 Try.underlying5 h2
      obtain ⟨o, rfl⟩ := typ_bool1 Try.underlying4 h3
      exact ⟨⟨f, t, o⟩, rfl, trivial⟩
    exact ⟨ds, rfl⟩
theorem deeds_bulk : ∀ l : List Deed, l.length ≤ cBLL (eD l)
  | [] => by simp [eD]
  | d :: l => by
    have h := deeds_bulk l
    simp only [eD, List.map_cons, List.length_cons, cBLL, cBL, cB] at h ⊢
    omega

end Go.Proofs.Ytebiajdkgpcidaa
