/-
  Messages that come in.
-/
import Derived.Test.YtkfaahjcncpmhaaLTyp2
import Derived.Test.YtkfaahjcncpmhaaLTypTree
import Derived.Test.YtkfaahjcncpmhaaLTypLog
import Derived.Test.YtkfaahjcncpmhaaLMsg
import Derived.Test.YtkfaahjcncpmhaaRw
set_option linter.unusedSimpArgs false
set_option linter.unusedVariables false
set_option maxRecDepth 200000
set_option maxHeartbeats 4000000
namespace Go.Proofs.Ytkfaahjcncpmhaa
open Go.Ev

def MG.cells (m : MG) : List C := [.sc (.int .i64 m.kd), .sc (.int .i64 m.fr), .sc (.int .i64 m.to), .sc (.int .i64 m.tm), .sc (.int .i64 m.ix), .sc (.int .i64 m.lt), .sc (.int .i64 m.cm), .sc (.bool m.ok), .sl (eE m.ents), .sl (eI .i64 m.mem), .sc (.int .i64 m.part), .sl (eB m.root), .sc (.int .i64 m.tree.kind), .sl (eB m.tree.key), .sl (eB m.tree.value), .sl (eB m.tree.digest), .sl (eT m.tree.kids)]
theorem msg_map {o : Bool} {m : MG} : m.cells.map (ofC o) = [i64 m.kd, i64 m.fr, i64 m.to, i64 m.tm, i64 m.ix, i64 m.lt, i64 m.cm, bo m.ok, .sl o (eE m.ents), .sl o (eI .i64 m.mem), i64 m.part, .sl o (eB m.root), i64 m.tree.kind, .sl o (eB m.tree.key), .sl o (eB m.tree.value), .sl o (eB m.tree.digest), .sl o (eT m.tree.kids)] := rfl
theorem typ_msg {n : Nat} {es : List C} (h : TypC Try.prog n 58 es) : ∃ m : MG, es = m.cells := by
  obtain ⟨h1, m, h2⟩ := typ_struct Try.underlying58 h
  rw [show Go.Program.cellsOf Try.prog 58 = 17 by kernel_rfl] at h1
  match es, h1 with
  | [c0, c1, c2, c3, c4, c5, c6, c7, c8, c9, c10, c11, c12, c13, c14, c15, c16], _ =>
    rw [show chunks Try.prog 58 = [(0, 1, 3), (1, 1, 3), (2, 1, 3), (3, 1, 3), (4, 1, 3), (5, 1, 3), (6, 1, 3), (7, 1, 4), (8, 1, 43), (9, 1, 22), (10, 1, 3), (11, 1, 28), (12, 5, 56)] by kernel_rfl] at h2
    have a0 := h2 (0, 1, 3) (by simp)
    have a1 := h2 (1, 1, 3) (by simp)
    have a2 := h2 (2, 1, 3) (by simp)
    have a3 := h2 (3, 1, 3) (by simp)
    have a4 := h2 (4, 1, 3) (by simp)
    have a5 := h2 (5, 1, 3) (by simp)
    have a6 := h2 (6, 1, 3) (by simp)
    have a7 := h2 (7, 1, 4) (by simp)
    have a8 := h2 (8, 1, 43) (by simp)
    have a9 := h2 (9, 1, 22) (by simp)
    have a10 := h2 (10, 1, 3) (by simp)
    have a11 := h2 (11, 1, 28) (by simp)
    have a12 := h2 (12, 5, 56) (by simp)
    change TypC _ _ _ [c0] at a0
    change TypC _ _ _ [c1] at a1
    change TypC _ _ _ [c2] at a2
    change TypC _ _ _ [c3] at a3
    change TypC _ _ _ [c4] at a4
    change TypC _ _ _ [c5] at a5
    change TypC _ _ _ [c6] at a6
    change TypC _ _ _ [c7] at a7
    change TypC _ _ _ [c8] at a8
    change TypC _ _ _ [c9] at a9
    change TypC _ _ _ [c10] at a10
    change TypC _ _ _ [c11] at a11
    change TypC _ _ _ [c12, c13, c14, c15, c16] at a12
    obtain ⟨x0, rfl, _⟩ := typ_int1 Try.underlying3 a0
    obtain ⟨x1, rfl, _⟩ := typ_int1 Try.underlying3 a1
    obtain ⟨x2, rfl, _⟩ := typ_int1 Try.underlying3 a2
    obtain ⟨x3, rfl, _⟩ := typ_int1 Try.underlying3 a3
    obtain ⟨x4, rfl, _⟩ := typ_int1 Try.underlying3 a4
    obtain ⟨x5, rfl, _⟩ := typ_int1 Try.underlying3 a5
    obtain ⟨x6, rfl, _⟩ := typ_int1 Try.underlying3 a6
    obtain ⟨x7, rfl⟩ := typ_bool1 Try.underlying4 a7
    obtain ⟨x8, rfl⟩ := typ_ents1 a8
    obtain ⟨x9, rfl⟩ := typ_ints1 Try.underlying22 Try.underlying3 a9
    obtain ⟨x10, rfl, _⟩ := typ_int1 Try.underlying3 a10
    obtain ⟨x11, rfl⟩ := typ_bytes1 Try.underlying28 Try.underlying5 a11
    obtain ⟨t, ht⟩ := typ_tree a12
    rw [cells_eq] at ht
    simp only [List.cons.injEq, and_true] at ht
    obtain ⟨rfl, rfl, rfl, rfl, rfl⟩ := ht
    exact ⟨⟨x0, x1, x2, x3, x4, x5, x6, x7, x8, x9, x10, x11, t⟩, rfl⟩
theorem msg_bulk (m : MG) : sumE m.ents ≤ 40 * cBL m.cells ∧ m.mem.length ≤ cBL m.cells ∧ m.root.length ≤ cBL m.cells ∧ m.tree.size ≤ cBL m.cells := by
  have h := ents_bulk m.ents
  have ht := tree_bulk m.tree
  rw [cells_eq] at ht
  simp only [MG.cells, cBL, cB, cBLL_eI, cBLL_eB] at ht ⊢
  omega

end Go.Proofs.Ytkfaahjcncpmhaa
