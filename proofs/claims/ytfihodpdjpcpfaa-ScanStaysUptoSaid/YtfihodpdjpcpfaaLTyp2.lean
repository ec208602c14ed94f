/-
  Structs of two.
-/
import Derived.Test.YtfihodpdjpcpfaaLTyp
set_option linter.unusedSimpArgs false
set_option linter.unusedVariables false
set_option maxRecDepth 200000
set_option maxHeartbeats 4000000
namespace Go.Proofs.Ytfihodpdjpcpfaa
open Go.Ev

theorem typ_2 {P : Program} {n : Nat} {t a b : TypeId} {es : List C} {fs : Array Field} (hu : P.underlying t = some (.struct fs)) (hc : chunks P t = [(0, 1, a), (1, 1, b)]) (hn : P.cellsOf t = 2) (h : TypC P n t es) : ∃ x y m, es = [x, y] ∧ TypC P m a [x] ∧ TypC P m b [y] := by
  obtain ⟨h1, m, h2⟩ := typ_struct hu h
  rw [hn] at h1
  match es, h1 with
  | [x, y], _ =>
    rw [hc] at h2
    exact ⟨x, y, m, rfl, h2 (0, 1, a) (by simp), h2 (1, 1, b) (by simp)⟩

end Go.Proofs.Ytfihodpdjpcpfaa
