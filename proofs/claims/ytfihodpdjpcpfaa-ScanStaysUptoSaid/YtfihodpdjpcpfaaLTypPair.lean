/-
  Lists of pairs that come in.
-/
import Derived.Test.YtfihodpdjpcpfaaLTyp2
import Derived.Test.YtfihodpdjpcpfaaLPair
import Derived.Test.YtfihodpdjpcpfaaRw
set_option linter.unusedSimpArgs false
set_option linter.unusedVariables false
set_option maxRecDepth 200000
set_option maxHeartbeats 4000000
namespace Go.Proofs.Ytfihodpdjpcpfaa
open Go.Ev

theorem typ_pairs {n : Nat} {es : List C} (h : TypC Try.prog n 22 es) : ∃ l : List KV, es = [.sl (eP l)] := by
  cases n with
  | zero => exact h.elim
  | succ n =>
    simp only [TypC, Try.underlying22] at h
    obtain ⟨l, rfl, hl⟩ := h
    obtain ⟨ds, rfl, _⟩ := list_of (f := fun d : KV => [C.sl (eB d.1), .sl (eB d.2)]) (p := fun _ => True) (l := l) fun x hx => by
      obtain ⟨a, b, m, rfl, h1, h2⟩ := typ_2 Try.underlying38 (a := 23) (b := 23) (by kernel_rfl) (by kernel_rfl) (hl x hx).2
      obtain ⟨f, rfl⟩ := typ_bytes1 Try.underlying23 Try.underlying5 h1
      obtain ⟨t, rfl⟩ := typ_bytes1 Try.underlying23 Try.underlying5 h2
      exact ⟨(f, t), rfl, trivial⟩
    exact ⟨ds, rfl⟩
theorem pairs_bulk : ∀ l : List KV, l.length ≤ cBLL (eP l)
  | [] => by simp [eP]
  | d :: l => by
    have h := pairs_bulk l
    simp only [eP, List.map_cons, List.length_cons, cBLL, cBL, cB] at h ⊢
    omega

end Go.Proofs.Ytfihodpdjpcpfaa
