/-
  Spans that come in.
-/
import Derived.Test.YtfihodpdjpcpfaaLTyp
import Derived.Test.YtfihodpdjpcpfaaRw
set_option linter.unusedSimpArgs false
set_option linter.unusedVariables false
set_option maxRecDepth 200000
set_option maxHeartbeats 4000000
namespace Go.Proofs.Ytfihodpdjpcpfaa
open Go.Ev

theorem typ_span {n : Nat} {es : List C} (h : TypC Try.prog n 25 es) : ∃ f t o, es = [.sl (eB f), .sl (eB t), .sc (.bool o)] := by
  obtain ⟨x, y, z, m, rfl, h1, h2, h3⟩ := typ_3 Try.underlying25 (a := 23) (b := 23) (c := 4) (by kernel_rfl) (by kernel_rfl) h
  obtain ⟨f, rfl⟩ := typ_bytes1 Try.underlying23 Try.underlying5 h1
  obtain ⟨t, rfl⟩ := typ_bytes1 Try.underlying23 Try.underlying5 h2
  obtain ⟨o, rfl⟩ := typ_bool1 Try.underlying4 h3
  exact ⟨f, t, o, rfl⟩

end Go.Proofs.Ytfihodpdjpcpfaa
