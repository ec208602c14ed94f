/-
  Structs of three, of five.
-/
import Derived.Test.YtfihodpdjpcpfaaEvE
set_option linter.unusedSimpArgs false
set_option linter.unusedVariables false
set_option maxRecDepth 200000
set_option maxHeartbeats 4000000
namespace Go.Proofs.Ytfihodpdjpcpfaa
open Go.Ev

theorem typ_3 {P : Program} {n : Nat} {t a b c : TypeId} {es : List C} {fs : Array Field} (hu : P.underlying t = some (.struct fs)) (hc : chunks P t = [(0, 1, a), (1, 1, b), (2, 1, c)]) (hn : P.cellsOf t = 3) (h : TypC P n t es) : ∃ x y z m, es = [x, y, z] ∧ TypC P m a [x] ∧ TypC P m b [y] ∧ TypC P m c [z] := by
  obtain ⟨h1, m, h2⟩ := typ_struct hu h
  rw [hn] at h1
  match es, h1 with
  | [x, y, z], _ =>
    rw [hc] at h2
    exact ⟨x, y, z, m, rfl, h2 (0, 1, a) (by simp), h2 (1, 1, b) (by simp), h2 (2, 1, c) (by simp)⟩
theorem typ_5 {P : Program} {n : Nat} {t a b c d e : TypeId} {es : List C} {fs : Array Field} (hu : P.underlying t = some (.struct fs)) (hc : chunks P t = [(0, 1, a), (1, 1, b), (2, 1, c), (3, 1, d), (4, 1, e)]) (hn : P.cellsOf t = 5) (h : TypC P (n + 1) t es) : ∃ x y z u v, es = [x, y, z, u, v] ∧ TypC P n a [x] ∧ TypC P n b [y] ∧ TypC P n c [z] ∧ TypC P n d [u] ∧ TypC P n e [v] := by
  simp only [TypC, hu] at h
  obtain ⟨h1, h2⟩ := h
  rw [hn] at h1
  match es, h1 with
  | [x, y, z, u, v], _ =>
    rw [hc] at h2
    exact ⟨x, y, z, u, v, rfl, h2 (0, 1, a) (by simp), h2 (1, 1, b) (by simp), h2 (2, 1, c) (by simp), h2 (3, 1, d) (by simp), h2 (4, 1, e) (by simp)⟩
theorem one_inj {a b : C} (h : [a] = [b]) : a = b := by simpa using h
theorem typ_bytes1 {P : Program} {n : Nat} {t e : TypeId} {c : C} (hu : P.underlying t = some (.slice e)) (he : P.underlying e = some (.int .u8)) (h : TypC P n t [c]) : ∃ l : List UInt8, c = .sl (eB l) := by
  obtain ⟨l, hl⟩ := typ_bytes hu he h
  exact ⟨l, one_inj hl⟩
theorem typ_bool1 {P : Program} {n : Nat} {t : TypeId} {c : C} (hu : P.underlying t = some .bool) (h : TypC P n t [c]) : ∃ b, c = .sc (.bool b) := by
  obtain ⟨b, hb⟩ := typ_bool hu h
  exact ⟨b, one_inj hb⟩
theorem typ_int1 {P : Program} {n : Nat} {t : TypeId} {k : IntKind} {c : C} (hu : P.underlying t = some (.int k)) (h : TypC P n t [c]) : ∃ i, c = .sc (.int k i) ∧ (Lit.int k i).wf = true := by
  obtain ⟨i, hi, hw⟩ := typ_int hu h
  exact ⟨i, one_inj hi, hw⟩

end Go.Proofs.Ytfihodpdjpcpfaa
