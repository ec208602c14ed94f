/-
  What comes in, by its types; rows with a bound.
-/
import Derived.Test.YtebiajdkgpcidaaEvTool
import Derived.JoinedCond
set_option linter.unusedSimpArgs false
set_option linter.unusedVariables false
namespace Go.Ev
open Go.RowKit Go.ChangeShapes Go.WideShapes Go.ChangeAt

theorem cBLL_mem {e : List C} {l : List (List C)} (h : e ∈ l) : cBL e ≤ cBLL l := by
  induction l with
  | nil => simp at h
  | cons x r ih =>
    simp only [cBLL]
    rcases List.mem_cons.1 h with rfl | h
    · omega
    · have := ih h; omega
theorem cBLL_eB (l : List UInt8) : cBLL (eB l) = l.length := by
  induction l with
  | nil => rfl
  | cons b l ih => simp only [eB, List.map_cons, cBLL, cBL, cB, List.length_cons] at ih ⊢; omega

theorem typ_bytes {P : Program} {n : Nat} {t e : TypeId} {es : List C} (hu : P.underlying t = some (.slice e)) (he : P.underlying e = some (.int .u8)) (h : TypC P n t es) : ∃ l : List UInt8, es = [.sl (eB l)] := by
  cases n with
  | zero => exact h.elim
  | succ n =>
    simp only [TypC, hu] at h
    obtain ⟨l, rfl, hl⟩ := h
    have key : ∀ l : List (List C), (∀ x ∈ l, x.length = P.cellsOf e ∧ TypC P n e x) → ∃ m : List UInt8, l = eB m := by
      intro l
      induction l with
      | nil => exact fun _ => ⟨[], rfl⟩
      | cons x l ih =>
        intro hl
        obtain ⟨m, rfl⟩ := ih fun y hy => hl y (by simp [hy])
        obtain ⟨i, rfl, hw⟩ := typ_int he (hl x (by simp)).2
        have hb : 0 ≤ i ∧ i < 256 := by
          simp [Lit.wf, IntKind.has, IntKind.min, IntKind.max, IntKind.signed, IntKind.bits] at hw
          omega
        exact ⟨byt i :: m, by rw [sc_u8 hb, e1_cons]⟩
    obtain ⟨m, rfl⟩ := key l hl
    exact ⟨m, rfl⟩
theorem bulk_bytes {l : List UInt8} : cBL [C.sl (eB l)] = l.length + 1 := by
  simp only [cBL, cB, cBLL_eB]

theorem typ_ints {P : Program} {n : Nat} {t e : TypeId} {es : List C} {k : IntKind} (hu : P.underlying t = some (.slice e)) (he : P.underlying e = some (.int k)) (h : TypC P n t es) : ∃ l : List Int, es = [.sl (eI k l)] ∧ ∀ i ∈ l, (Lit.int k i).wf = true := by
  cases n with
  | zero => exact h.elim
  | succ n =>
    simp only [TypC, hu] at h
    obtain ⟨l, rfl, hl⟩ := h
    have key : ∀ l : List (List C), (∀ x ∈ l, x.length = P.cellsOf e ∧ TypC P n e x) → ∃ m : List Int, l = eI k m ∧ ∀ i ∈ m, (Lit.int k i).wf = true := by
      intro l
      induction l with
      | nil => exact fun _ => ⟨[], rfl, fun i h => by simp at h⟩
      | cons x l ih =>
        intro hl
        obtain ⟨m, rfl, hm⟩ := ih fun y hy => hl y (by simp [hy])
        obtain ⟨i, rfl, hw⟩ := typ_int he (hl x (by simp)).2
        exact ⟨i :: m, rfl, fun j hj => by
          rcases List.mem_cons.1 hj with rfl | hj
          · exact hw
          · exact hm j hj⟩
    obtain ⟨m, rfl, hm⟩ := key l hl
    exact ⟨m, rfl, hm⟩
theorem cBLL_eI (k : IntKind) (l : List Int) : cBLL (eI k l) = l.length := by
  induction l with
  | nil => rfl
  | cons b l ih => simp only [eI, List.map_cons, cBLL, cBL, cB, List.length_cons] at ih ⊢; omega
theorem typ_slices {P : Program} {n : Nat} {t e u : TypeId} {es : List C} (hu : P.underlying t = some (.slice e)) (he : P.underlying e = some (.slice u)) (hb : P.underlying u = some (.int .u8)) (h : TypC P n t es) : ∃ l : List (List UInt8), es = [.sl (eBs l)] := by
  cases n with
  | zero => exact h.elim
  | succ n =>
    simp only [TypC, hu] at h
    obtain ⟨l, rfl, hl⟩ := h
    have key : ∀ l : List (List C), (∀ x ∈ l, x.length = P.cellsOf e ∧ TypC P n e x) → ∃ m : List (List UInt8), l = eBs m := by
      intro l
      induction l with
      | nil => exact fun _ => ⟨[], rfl⟩
      | cons x l ih =>
        intro hl
        obtain ⟨m, rfl⟩ := ih fun y hy => hl y (by simp [hy])
        obtain ⟨b, rfl⟩ := typ_bytes he hb (hl x (by simp)).2
        exact ⟨b :: m, rfl⟩
    obtain ⟨m, rfl⟩ := key l hl
    exact ⟨m, rfl⟩
theorem cBLL_eBs (l : List (List UInt8)) : cBLL (eBs l) = (l.map fun b => b.length + 1).sum := by
  induction l with
  | nil => rfl
  | cons b l ih =>
    simp only [eBs, List.map_cons, cBLL, cBL, cB, cBLL_eB, List.sum_cons] at ih ⊢
    omega
/-- A struct's parts. -/
theorem typ_struct {P : Program} {n : Nat} {t : TypeId} {es : List C} {fs : Array Field} (hu : P.underlying t = some (.struct fs)) (h : TypC P n t es) : es.length = P.cellsOf t ∧ ∃ m, ∀ c ∈ chunks P t, TypC P m c.2.2 ((es.drop c.1).take c.2.1) := by
  cases n with
  | zero => exact h.elim
  | succ n =>
    simp only [TypC, hu] at h
    exact ⟨h.1, n, h.2⟩
theorem typ_slice {P : Program} {n : Nat} {t e : TypeId} {es : List C} (hu : P.underlying t = some (.slice e)) (h : TypC P n t es) : ∃ l : List (List C), es = [.sl l] ∧ ∃ m, ∀ x ∈ l, TypC P m e x := by
  cases n with
  | zero => exact h.elim
  | succ n =>
    simp only [TypC, hu] at h
    obtain ⟨l, rfl, hl⟩ := h
    exact ⟨l, rfl, n, fun x hx => (hl x hx).2⟩
theorem list_of {α : Type} {f : α → List C} {p : α → Prop} : ∀ {l : List (List C)}, (∀ x ∈ l, ∃ d, x = f d ∧ p d) → ∃ ds : List α, l = ds.map f ∧ ∀ d ∈ ds, p d
  | [], _ => ⟨[], rfl, fun d h => by simp at h⟩
  | x :: l, h => by
    obtain ⟨d, rfl, hd⟩ := h x (by simp)
    obtain ⟨ds, rfl, hds⟩ := list_of (l := l) fun y hy => h y (by simp [hy])
    exact ⟨d :: ds, rfl, fun q hq => by
      rcases List.mem_cons.1 hq with rfl | hq
      · exact hd
      · exact hds q hq⟩
theorem cB_pos (c : C) : 1 ≤ cB c := by
  cases c with
  | sc v => cases v <;> simp [cB]
  | sl l => simp [cB]
theorem cBLL_len : ∀ {l : List (List C)}, (∀ x ∈ l, x ≠ []) → l.length ≤ cBLL l
  | [], _ => by simp [cBLL]
  | x :: l, h => by
    have h1 := cBLL_len (l := l) fun y hy => h y (by simp [hy])
    have h2 : 1 ≤ cBL x := by
      cases x with
      | nil => exact absurd rfl (h [] (by simp))
      | cons c x => have := cB_pos c; simp only [cBL]; omega
    simp only [cBLL, List.length_cons]
    omega
/-- A struct of two. -/
theorem typ_two {P : Program} {n : Nat} {t a b : TypeId} {es : List C} {fs : Array Field} (hu : P.underlying t = some (.struct fs)) (hc : chunks P t = [(0, 1, a), (1, 1, b)]) (hn : P.cellsOf t = 2) (h : TypC P n t es) : ∃ x y m, es = [x, y] ∧ TypC P m a [x] ∧ TypC P m b [y] := by
  obtain ⟨h1, m, h2⟩ := typ_struct hu h
  rw [hn] at h1
  match es, h1 with
  | [x, y], _ =>
    rw [hc] at h2
    exact ⟨x, y, m, rfl, h2 (0, 1, a) (by simp), h2 (1, 1, b) (by simp)⟩

theorem sum_mem {l : List (List UInt8)} {b : List UInt8} (h : b ∈ l) : b.length + 1 ≤ (l.map fun b => b.length + 1).sum := by
  induction l with
  | nil => simp at h
  | cons x l ih =>
    simp only [List.map_cons, List.sum_cons]
    rcases List.mem_cons.1 h with rfl | h
    · omega
    · have := ih h; omega
theorem sum_len (l : List (List UInt8)) : l.length ≤ (l.map fun b => b.length + 1).sum := by
  induction l with
  | nil => simp
  | cons x l ih =>
    simp only [List.map_cons, List.sum_cons, List.length_cons]
    omega

end Go.Ev
