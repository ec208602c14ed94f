/-
  Logs that come in.
-/
import Derived.Test.YtkfaahjcncpmhaaLTyp2
import Derived.Test.YtkfaahjcncpmhaaLWr5
import Derived.Test.YtkfaahjcncpmhaaRw
set_option linter.unusedSimpArgs false
set_option linter.unusedVariables false
set_option maxRecDepth 200000
set_option maxHeartbeats 4000000
namespace Go.Proofs.Ytkfaahjcncpmhaa
open Go.Ev

theorem typ_ints1 {P : Program} {n : Nat} {t e : TypeId} {c : C} (hu : P.underlying t = some (.slice e)) (he : P.underlying e = some (.int .i64)) (h : TypC P n t [c]) : ∃ l : List Int, c = .sl (eI .i64 l) := by
  obtain ⟨l, hl, _⟩ := typ_ints hu he h
  exact ⟨l, one_inj hl⟩
theorem typ_ents1 {n : Nat} {c : C} (h : TypC Try.prog n 43 [c]) : ∃ l : List Ent, c = .sl (eE l) := by
  obtain ⟨l, hl, m, hm⟩ := typ_slice Try.underlying43 h
  obtain rfl := one_inj hl
  obtain ⟨ds, rfl, _⟩ := list_of (f := ecells) (p := fun _ => True) (l := l) fun x hx => by
    obtain ⟨a, b, d, m2, rfl, h1, h2, h3⟩ := typ_3 Try.underlying96 (a := 3) (b := 3) (c := 28) (by kernel_rfl) (by kernel_rfl) (hm x hx)
    obtain ⟨i, rfl, _⟩ := typ_int1 Try.underlying3 h1
    obtain ⟨j, rfl, _⟩ := typ_int1 Try.underlying3 h2
    obtain ⟨w, rfl⟩ := typ_bytes1 Try.underlying28 Try.underlying5 h3
    exact ⟨(i, j, w), rfl, trivial⟩
  exact ⟨ds, rfl⟩
def LG.cells (g : LG) : List C := [.sc (.int .i64 g.ix), .sc (.int .i64 g.tm), .sl (eI .i64 g.mem), .sl (eE g.ents)]
theorem log_map {o : Bool} {g : LG} : g.cells.map (ofC o) = [i64 g.ix, i64 g.tm, .sl o (eI .i64 g.mem), .sl o (eE g.ents)] := rfl
theorem typ_log {n : Nat} {es : List C} (h : TypC Try.prog n 45 es) : ∃ g : LG, es = g.cells := by
  obtain ⟨h1, m, h2⟩ := typ_struct Try.underlying45 h
  rw [show Go.Program.cellsOf Try.prog 45 = 4 by kernel_rfl] at h1
  match es, h1 with
  | [x, y, z, u], _ =>
    rw [show chunks Try.prog 45 = [(0, 3, 42), (3, 1, 43)] by kernel_rfl] at h2
    have a := h2 (0, 3, 42) (by simp)
    have b := h2 (3, 1, 43) (by simp)
    obtain ⟨x1, y1, z1, m2, he, a1, a2, a3⟩ := typ_3 Try.underlying42 (a := 3) (b := 3) (c := 22) (by kernel_rfl) (by kernel_rfl) a
    simp only [List.drop_zero, List.take_succ_cons, List.take_zero, List.cons.injEq, and_true] at he
    obtain ⟨rfl, rfl, rfl⟩ := he
    obtain ⟨i, rfl, _⟩ := typ_int1 Try.underlying3 a1
    obtain ⟨j, rfl, _⟩ := typ_int1 Try.underlying3 a2
    obtain ⟨k, rfl⟩ := typ_ints1 Try.underlying22 Try.underlying3 a3
    obtain ⟨l, rfl⟩ := typ_ents1 b
    exact ⟨⟨i, j, k, l⟩, rfl⟩
theorem ents_bulk : ∀ l : List Ent, sumE l ≤ 40 * cBLL (eE l)
  | [] => by simp [sumE]
  | e :: r => by
    have h := ents_bulk r
    simp only [sumE, eE, List.map_cons, cBLL, cBL, cB, cBLL_eB] at h ⊢
    omega
theorem log_bulk (g : LG) : g.mem.length ≤ cBL g.cells ∧ sumE g.ents ≤ 40 * cBL g.cells := by
  have h := ents_bulk g.ents
  simp only [LG.cells, cBL, cB, cBLL_eI]
  omega

end Go.Proofs.Ytkfaahjcncpmhaa
