/-
  Trees that come in.
-/
import Derived.Test.YtkfaahjcncpmhaaLTyp2
import Derived.Test.YtkfaahjcncpmhaaLTree
import Derived.Test.YtkfaahjcncpmhaaRw
import Derived.Test.YtkfaahjcncpmhaaLWr5
import Derived.Test.YtkfaahjcncpmhaaLMsg
set_option linter.unusedSimpArgs false
set_option linter.unusedVariables false
set_option maxRecDepth 200000
set_option maxHeartbeats 4000000
namespace Go.Proofs.Ytkfaahjcncpmhaa
open Go.Ev

theorem typ_tree : ∀ {n : Nat} {es : List C}, TypC Try.prog n 56 es → ∃ t : T, es = t.cells := by
  intro n
  induction n using Nat.strongRecOn with
  | ind n ih =>
    intro es h
    cases n with
    | zero => exact h.elim
    | succ n =>
      obtain ⟨x, y, z, u, v, rfl, h1, h2, h3, h4, h5⟩ := typ_5 Try.underlying56 (a := 3) (b := 28) (c := 28) (d := 28) (e := 54) (by kernel_rfl) (by kernel_rfl) h
      obtain ⟨i, rfl, _⟩ := typ_int1 Try.underlying3 h1
      obtain ⟨a, rfl⟩ := typ_bytes1 Try.underlying28 Try.underlying5 h2
      obtain ⟨b, rfl⟩ := typ_bytes1 Try.underlying28 Try.underlying5 h3
      obtain ⟨c, rfl⟩ := typ_bytes1 Try.underlying28 Try.underlying5 h4
      cases n with
      | zero => exact h5.elim
      | succ m =>
        simp only [TypC, Try.underlying54] at h5
        obtain ⟨l, hl, hm⟩ := h5
        have hv := one_inj hl
        subst hv
        obtain ⟨ds, rfl, _⟩ := list_of (f := T.cells) (p := fun _ => True) (l := l) fun x hx => by
          obtain ⟨t, ht⟩ := ih m (by omega) (hm x hx).2
          exact ⟨t, ht, trivial⟩
        exact ⟨.mk i a b c ds, by rw [cells_eq, eT_map]; rfl⟩
mutual
theorem tree_bulk : ∀ t : T, t.size ≤ cBL t.cells
  | .mk k a b c l => by
    have h := trees_bulk l
    simp only [T.cells, T.size, cBL, cB, cBLL_eB]
    omega
theorem trees_bulk : ∀ l : List T, sizeL l ≤ cBLL (eT l)
  | [] => by simp only [sizeL, eT]; omega
  | t :: l => by
    have h1 := tree_bulk t
    have h2 := trees_bulk l
    simp only [sizeL, eT, cBLL]
    omega
end

end Go.Proofs.Ytkfaahjcncpmhaa
namespace Go.Proofs.Ytkfaahjcncpmhaa
open Go.Ev

theorem typ_ints1 {P : Program} {n : Nat} {t e : TypeId} {c : C} (hu : P.underlying t = some (.slice e)) (he : P.underlying e = some (.int .i64)) (h : TypC P n t [c]) : ∃ l : List Int, c = .sl (eI .i64 l) := by
  obtain ⟨l, hl, _⟩ := typ_ints hu he h
  exact ⟨l, one_inj hl⟩
theorem typ_ents1 {n : Nat} {c : C} (h : TypC Try.prog n 43 [c]) : ∃ l : List Ent, c = .sl (eE l) := by
  obtain ⟨l, hl, m, hm⟩ := typ_slice Try.underlying43 h
  obtain rfl := one_inj hl
  obtain ⟨ds, rfl, _⟩ := list_of (f := ecells) (p := fun _ => True) (l := l) fun x hx => by
    obtain ⟨a, b, d, m2, rfl, h1, h2, h3⟩ := typ_3 Try.underlying96 (a := 3) (b := 3) (c := 28) (by kernel_rfl) (by kernel_rfl) (hm x hx)
    obtain ⟨i, rfl, _⟩ := typ_int1 Try.underlying3 h1
    obtain ⟨j, rfl, _⟩ := typ_int1 Try.underlying3 h2
    obtain ⟨w, rfl⟩ := typ_bytes1 Try.underlying28 Try.underlying5 h3
    exact ⟨(i, j, w), rfl, trivial⟩
  exact ⟨ds, rfl⟩
def LG.cells (g : LG) : List C := [.sc (.int .i64 g.ix), .sc (.int .i64 g.tm), .sl (eI .i64 g.mem), .sl (eE g.ents)]
theorem log_map {o : Bool} {g : LG} : g.cells.map (ofC o) = [i64 g.ix, i64 g.tm, .sl o (eI .i64 g.mem), .sl o (eE g.ents)] := rfl
theorem typ_log {n : Nat} {es : List C} (h : TypC Try.prog n 45 es) : ∃ g : LG, es = g.cells := by
  obtain ⟨h1, m, h2⟩ := typ_struct Try.underlying45 h
  rw [show Go.Program.cellsOf Try.prog 45 = 4 by kernel_rfl] at h1
  match es, h1 with
  | [x, y, z, u], _ =>
    rw [show chunks Try.prog 45 = [(0, 3, 42), (3, 1, 43)] by kernel_rfl] at h2
    have a := h2 (0, 3, 42) (by simp)
    have b := h2 (3, 1, 43) (by simp)
    obtain ⟨x1, y1, z1, m2, he, a1, a2, a3⟩ := typ_3 Try.underlying42 (a := 3) (b := 3) (c := 22) (by kernel_rfl) (by kernel_rfl) a
    simp only [List.drop_zero, List.take_succ_cons, List.take_zero, List.cons.injEq, and_true] at he
    obtain ⟨rfl, rfl, rfl⟩ := he
    obtain ⟨i, rfl, _⟩ := typ_int1 Try.underlying3 a1
    obtain ⟨j, rfl, _⟩ := typ_int1 Try.underlying3 a2
    obtain ⟨k, rfl⟩ := typ_ints1 Try.underlying22 Try.underlying3 a3
    obtain ⟨l, rfl⟩ := typ_ents1 b
    exact ⟨⟨i, j, k, l⟩, rfl⟩
theorem ents_bulk : ∀ l : List Ent, sumE l ≤ 40 * cBLL (eE l)
  | [] => by simp [sumE]
  | e :: r => by
    have h := ents_bulk r
    simp only [sumE, eE, List.map_cons, cBLL, cBL, cB, cBLL_eB] at h ⊢
    omega
theorem log_bulk (g : LG) : g.mem.length ≤ cBL g.cells ∧ sumE g.ents ≤ 40 * cBL g.cells := by
  have h := ents_bulk g.ents
  simp only [LG.cells, cBL, cB, cBLL_eI]
  omega

end Go.Proofs.Ytkfaahjcncpmhaa
namespace Go.Proofs.Ytkfaahjcncpmhaa
open Go.Ev

def MG.cells (m : MG) : List C := [.sc (.int .i64 m.kd), .sc (.int .i64 m.fr), .sc (.int .i64 m.to), .sc (.int .i64 m.tm), .sc (.int .i64 m.ix), .sc (.int .i64 m.lt), .sc (.int .i64 m.cm), .sc (.bool m.ok), .sl (eE m.ents), .sl (eI .i64 m.mem), .sc (.int .i64 m.part), .sl (eB m.root), .sc (.int .i64 m.tree.kind), .sl (eB m.tree.key), .sl (eB m.tree.value), .sl (eB m.tree.digest), .sl (eT m.tree.kids)]
theorem msg_map {o : Bool} {m : MG} : m.cells.map (ofC o) = [i64 m.kd, i64 m.fr, i64 m.to, i64 m.tm, i64 m.ix, i64 m.lt, i64 m.cm, bo m.ok, .sl o (eE m.ents), .sl o (eI .i64 m.mem), i64 m.part, .sl o (eB m.root), i64 m.tree.kind, .sl o (eB m.tree.key), .sl o (eB m.tree.value), .sl o (eB m.tree.digest), .sl o (eT m.tree.kids)] := rfl
theorem typ_msg {n : Nat} {es : List C} (h : TypC Try.prog n 58 es) : ∃ m : MG, es = m.cells := by
  obtain ⟨h1, m, h2⟩ := typ_struct Try.underlying58 h
  rw [show Go.Program.cellsOf Try.prog 58 = 17 by kernel_rfl] at h1
  match es, h1 with
  | [c0, c1, c2, c3, c4, c5, c6, c7, c8, c9, c10, c11, c12, c13, c14, c15, c16], _ =>
    rw [show chunks Try.prog 58 = [(0, 1, 3), (1, 1, 3), (2, 1, 3), (3, 1, 3), (4, 1, 3), (5, 1, 3), (6, 1, 3), (7, 1, 4), (8, 1, 43), (9, 1, 22), (10, 1, 3), (11, 1, 28), (12, 5, 56)] by kernel_rfl] at h2
    have a0 := h2 (0, 1, 3) (by simp)
    have a1 := h2 (1, 1, 3) (by simp)
    have a2 := h2 (2, 1, 3) (by simp)
    have a3 := h2 (3, 1, 3) (by simp)
    have a4 := h2 (4, 1, 3) (by simp)
    have a5 := h2 (5, 1, 3) (by simp)
    have a6 := h2 (6, 1, 3) (by simp)
    have a7 := h2 (7, 1, 4) (by simp)
    have a8 := h2 (8, 1, 43) (by simp)
    have a9 := h2 (9, 1, 22) (by simp)
    have a10 := h2 (10, 1, 3) (by simp)
    have a11 := h2 (11, 1, 28) (by simp)
    have a12 := h2 (12, 5, 56) (by simp)
    change TypC _ _ _ [c0] at a0
    change TypC _ _ _ [c1] at a1
    change TypC _ _ _ [c2] at a2
    change TypC _ _ _ [c3] at a3
    change TypC _ _ _ [c4] at a4
    change TypC _ _ _ [c5] at a5
    change TypC _ _ _ [c6] at a6
    change TypC _ _ _ [c7] at a7
    change TypC _ _ _ [c8] at a8
    change TypC _ _ _ [c9] at a9
    change TypC _ _ _ [c10] at a10
    change TypC _ _ _ [c11] at a11
    change TypC _ _ _ [c12, c13, c14, c15, c16] at a12
    obtain ⟨x0, rfl, _⟩ := typ_int1 Try.underlying3 a0
    obtain ⟨x1, rfl, _⟩ := typ_int1 Try.underlying3 a1
    obtain ⟨x2, rfl, _⟩ := typ_int1 Try.underlying3 a2
    obtain ⟨x3, rfl, _⟩ := typ_int1 Try.underlying3 a3
    obtain ⟨x4, rfl, _⟩ := typ_int1 Try.underlying3 a4
    obtain ⟨x5, rfl, _⟩ := typ_int1 Try.underlying3 a5
    obtain ⟨x6, rfl, _⟩ := typ_int1 Try.underlying3 a6
    obtain ⟨x7, rfl⟩ := typ_bool1 Try.underlying4 a7
    obtain ⟨x8, rfl⟩ := typ_ents1 a8
    obtain ⟨x9, rfl⟩ := typ_ints1 Try.underlying22 Try.underlying3 a9
    obtain ⟨x10, rfl, _⟩ := typ_int1 Try.underlying3 a10
    obtain ⟨x11, rfl⟩ := typ_bytes1 Try.underlying28 Try.underlying5 a11
    obtain ⟨t, ht⟩ := typ_tree a12
    rw [cells_eq] at ht
    simp only [List.cons.injEq, and_true] at ht
    obtain ⟨rfl, rfl, rfl, rfl, rfl⟩ := ht
    exact ⟨⟨x0, x1, x2, x3, x4, x5, x6, x7, x8, x9, x10, x11, t⟩, rfl⟩
theorem msg_bulk (m : MG) : sumE m.ents ≤ 40 * cBL m.cells ∧ m.mem.length ≤ cBL m.cells ∧ m.root.length ≤ cBL m.cells ∧ m.tree.size ≤ cBL m.cells := by
  have h := ents_bulk m.ents
  have ht := tree_bulk m.tree
  rw [cells_eq] at ht
  simp only [MG.cells, cBL, cB, cBLL_eI, cBLL_eB] at ht ⊢
  omega

end Go.Proofs.Ytkfaahjcncpmhaa
