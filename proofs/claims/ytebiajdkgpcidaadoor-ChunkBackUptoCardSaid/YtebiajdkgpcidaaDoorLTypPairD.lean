/-
  Lists of pairs that come in.
-/
import Derived.Test.YtebiajdkgpcidaaDoorLTyp2
import Derived.Test.YtebiajdkgpcidaaDoorChunkBack
import Derived.Test.YtebiajdkgpcidaaDoorRwD
set_option linter.unusedSimpArgs false
set_option linter.unusedVariables false
set_option maxRecDepth 200000
set_option maxHeartbeats 4000000
namespace Go.Proofs.YtebiajdkgpcidaaDoor
open Go.Ev

theorem typ_pairs {n : Nat} {es : List C} (h : TypC Tryd.prog n 62 es) : ∃ l : List KV, es = [.sl (eP l)] := by
  cases n with
  | zero => exact h.elim
  | succ n =>
    simp only [TypC, Tryd.underlying62] at h
    obtain ⟨l, rfl, hl⟩ := h
    obtain ⟨ds, rfl, _⟩ := list_of (f := fun d : KV => [C.sl (eB d.1), .sl (eB d.2)]) (p := fun _ => True) (l := l) fun x hx => by
      obtain ⟨a, b, m, rfl, h1, h2⟩ := typ_2 Tryd.underlying81 (a := 22) (b := 22) (by kernel_rfl) (by kernel_rfl) (hl x hx).2
      obtain ⟨f, rfl⟩ := typ_bytes1 Tryd.underlying22 Tryd.underlying5 h1
      obtain ⟨t, rfl⟩ := typ_bytes1 Tryd.underlying22 Tryd.underlying5 h2
      exact ⟨(f, t), rfl, trivial⟩
    exact ⟨ds, rfl⟩
theorem pairs_bulk : ∀ l : List KV, l.length ≤ cBLL (eP l)
  | [] => by simp [eP]
  | d :: l => by
    have h := pairs_bulk l
    simp only [eP, List.map_cons, List.length_cons, cBLL, cBL, cB] at h ⊢
    omega

end Go.Proofs.YtebiajdkgpcidaaDoor
