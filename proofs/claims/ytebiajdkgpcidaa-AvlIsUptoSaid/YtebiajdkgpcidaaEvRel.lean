/-
  What the evaluator's values, objects and states stand for in the model's memory.
-/
import Derived.Test.YtebiajdkgpcidaaEvDefs
import Derived.Laws.Rows
import Derived.Laws.Entries
import GoSem.ClaimData
set_option linter.unusedSimpArgs false
set_option linter.unusedVariables false
namespace Go.Ev

/-- 'v' reads as 'c', by cells of 'S' alone. -/
inductive Rep (w : World) (S : Nat → Nat → Prop) : C → Value → Prop
  | sc (v : Value) (h : v.oneCell' = true) : Rep w S (.sc v) v
  | nil (base : Option Addr) (cap : Nat) (h0 : base = none → cap = 0) : Rep w S (.sl []) (.slice base 0 cap)
  | sl (l : List (List C)) (sz b o cap : Nat) (vals : Nat → Value) (hne : l ≠ []) (hsz : ∀ e ∈ l, e.length = sz) (hcap : l.length ≤ cap)
      (hc : ∀ j, j < l.length * sz → S b (o + j) ∧ w.cell? ⟨b, o + j, none⟩ = some (vals j))
      (hr : ∀ (i k : Nat) (e : List C) (c : C), l[i]? = some e → e[k]? = some c → Rep w S c (vals (i * sz + k))) :
      Rep w S (.sl l) (.slice (some ⟨b, o, none⟩) l.length cap)

theorem Rep.mono {w w' : World} {S S' : Nat → Nat → Prop} (h : ∀ b o, S b o → S' b o ∧ w'.cell? ⟨b, o, none⟩ = w.cell? ⟨b, o, none⟩) {c : C} {v : Value} (hr : Rep w S c v) : Rep w' S' c v := by
  induction hr with
  | sc v hv => exact .sc v hv
  | nil base cap h0 => exact .nil base cap h0
  | sl l sz b o cap vals hne hsz hcap hc _ ih =>
    exact .sl l sz b o cap vals hne hsz hcap (fun j hj => ⟨(h _ _ (hc j hj).1).1, (h _ _ (hc j hj).1).2.trans (hc j hj).2⟩) ih

/-- Where a state stands: the world; the cells that nobody writes any more; each slot's block, and its capacity; the heap's size as the call began. -/
structure Cx where
  w : World
  S : Nat → Nat → Prop
  φ : Nat → Nat
  κ : Nat → Nat
  B0 : Nat

def Cx.sh (x : Cx) (old : Bool) (b o : Nat) : Prop := x.S b o ∧ (old = true ∨ x.B0 ≤ b)

structure Ext (x x' : Cx) : Prop where
  b0 : x'.B0 = x.B0
  cells : ∀ b o, x.S b o → x'.S b o ∧ x'.w.cell? ⟨b, o, none⟩ = x.w.cell? ⟨b, o, none⟩

theorem Ext.refl (x : Cx) : Ext x x := ⟨rfl, fun _ _ h => ⟨h, rfl⟩⟩
theorem Ext.trans {x y z : Cx} (h : Ext x y) (h' : Ext y z) : Ext x z :=
  ⟨h'.b0.trans h.b0, fun _ _ hs => ⟨(h'.cells _ _ (h.cells _ _ hs).1).1, (h'.cells _ _ (h.cells _ _ hs).1).2.trans (h.cells _ _ hs).2⟩⟩
theorem Ext.sh {x x' : Cx} (h : Ext x x') (old : Bool) : ∀ b o, x.sh old b o → x'.sh old b o ∧ x'.w.cell? ⟨b, o, none⟩ = x.w.cell? ⟨b, o, none⟩ :=
  fun _ _ hs => ⟨⟨(h.cells _ _ hs.1).1, by rw [h.b0]; exact hs.2⟩, (h.cells _ _ hs.1).2⟩
theorem Cx.sh_true {x : Cx} {old : Bool} {b o : Nat} (h : x.sh old b o) : x.sh true b o := ⟨h.1, .inl rfl⟩

def Value.isSlice : Value → Prop
  | .slice _ _ _ => True
  | _ => False
def Value.isPtr : Value → Prop
  | .pointer (some _) => True
  | _ => False

inductive RelV (x : Cx) (h : Heap) : AV → Value → Prop
  | undef (v : Value) : RelV x h .undef v
  | s (v : Value) : RelV x h (.s v) v
  | sl (old : Bool) (l : List (List C)) (v : Value) (hr : Rep x.w (x.sh old) (.sl l) v) : RelV x h (.sl old l) v
  | nilsl : RelV x h .nilsl (.slice none 0 0)
  | esl (a : Addr) (cap : Nat) : RelV x h .esl (.slice (some a) 0 cap)
  | row (id n : Nat) (v : Value) (hv : Value.isSlice v) (hle : ∀ e s o f l, getO h id = some (.row e s o f l) → n ≤ l.length) (hr : ∀ e s o f l, getO h id = some (.row e s o f l) → l.length = n → v = .slice (some ⟨x.φ id, 0, none⟩) n (x.κ id)) : RelV x h (.row id n) v
  | ptr (id off : Nat) (v : Value) (hv : Value.isPtr v) (hr : ∀ cs, getO h id = some (.var cs) → v = .pointer (some ⟨x.φ id, off, none⟩)) : RelV x h (.ptr id off) v
  | eptr (id n i k : Nat) (v : Value) (hv : Value.isPtr v) (hle : ∀ e s o f l, getO h id = some (.row e s o f l) → n ≤ l.length) (hr : ∀ e s o f l, getO h id = some (.row e s o f l) → l.length = n → v = .pointer (some ⟨x.φ id, i * s + k, none⟩)) : RelV x h (.eptr id n i k) v
  | daddr (old : Bool) (l : List C) (b o : Nat) (vals : Nat → Value) (hc : ∀ j, j < l.length → x.sh old b (o + j) ∧ x.w.cell? ⟨b, o + j, none⟩ = some (vals j))
      (hr : ∀ (j : Nat) (c : C), l[j]? = some c → Rep x.w (x.sh old) c (vals j)) : RelV x h (.daddr old l) (.pointer (some ⟨b, o, none⟩))
  | agg (l : List AV) (vs : List Value) (hl : l.length = vs.length) (hr : ∀ (i : Nat) (a : AV) (v : Value), l[i]? = some a → vs[i]? = some v → RelV x h a v) : RelV x h (.agg l) (.agg vs.toArray)
  | tup (l : List AV) (vs : List Value) (hl : l.length = vs.length) (hr : ∀ (i : Nat) (a : AV) (v : Value), l[i]? = some a → vs[i]? = some v → RelV x h a v) : RelV x h (.tup l) (.tuple vs.toArray)
  | ifc (t : Nat) (a : AV) (v : Value) (hr : RelV x h a v) : RelV x h (.ifc t a) (.iface t v)
  | clos (f : Nat) (l : List AV) (vs : List Value) (hl : l.length = vs.length) (hr : ∀ (i : Nat) (a : AV) (v : Value), l[i]? = some a → vs[i]? = some v → RelV x h a v) : RelV x h (.clos f l) (.func (.func f) #[] vs.toArray)

/-- What may become of a slot. -/
def Evo (x : Cx) (h : Heap) (x' : Cx) (h' : Heap) (id : Nat) : Prop :=
  (∀ cs', getO h' id = some (.var cs') → (∃ cs, getO h id = some (.var cs)) ∧ x'.φ id = x.φ id) ∧
  (∀ e s o f l', getO h' id = some (.row e s o f l') → ∃ o' f' l, getO h id = some (.row e s o' f' l) ∧ l.length ≤ l'.length ∧ (l.length = l'.length → x'.φ id = x.φ id ∧ x'.κ id = x.κ id))

theorem Evo.refl (x : Cx) (h : Heap) (id : Nat) : Evo x h x h id :=
  ⟨fun cs hc => ⟨⟨cs, hc⟩, rfl⟩, fun _ _ o f l hl => ⟨o, f, l, hl, Nat.le_refl _, fun _ => ⟨rfl, rfl⟩⟩⟩

theorem Evo.trans {x y z : Cx} {h h1 h2 : Heap} {id : Nat} (a : Evo x h y h1 id) (b : Evo y h1 z h2 id) : Evo x h z h2 id := by
  refine ⟨fun cs hc => ?_, fun e s o f l hl => ?_⟩
  · obtain ⟨⟨c1, h1⟩, e1⟩ := b.1 cs hc
    obtain ⟨h0, e0⟩ := a.1 c1 h1
    exact ⟨h0, e1.trans e0⟩
  · obtain ⟨o1, f1, l1, g1, le1, k1⟩ := b.2 e s o f l hl
    obtain ⟨o0, f0, l0, g0, le0, k0⟩ := a.2 e s o1 f1 l1 g1
    refine ⟨o0, f0, l0, g0, Nat.le_trans le0 le1, fun he => ?_⟩
    have h1 := k1 (by omega)
    have h0 := k0 (by omega)
    exact ⟨h1.1.trans h0.1, h1.2.trans h0.2⟩

/-- A slot that is as it was. -/
theorem Evo.same {x x' : Cx} {h h' : Heap} {id : Nat} (hg : getO h' id = getO h id) (hp : x'.φ id = x.φ id) (hk : x'.κ id = x.κ id) : Evo x h x' h' id :=
  ⟨fun cs hc => ⟨⟨cs, hg ▸ hc⟩, hp⟩, fun _ _ o f l hl => ⟨o, f, l, hg ▸ hl, Nat.le_refl _, fun _ => ⟨hp, hk⟩⟩⟩

theorem mem_refsL {l : List AV} {i : Nat} {a : AV} (h : l[i]? = some a) {id : Nat} (hi : id ∈ a.refs) : id ∈ refsL l := by
  induction l generalizing i with
  | nil => simp at h
  | cons b r ih =>
    cases i with
    | zero =>
      simp only [List.getElem?_cons_zero, Option.some.injEq] at h
      subst h
      simp only [refsL, List.mem_append]
      exact .inl hi
    | succ i =>
      simp only [List.getElem?_cons_succ] at h
      simp only [refsL, List.mem_append]
      exact .inr (ih h)

theorem mem_refsL_iff {l : List AV} {id : Nat} : id ∈ refsL l ↔ ∃ (i : Nat) (a : AV), l[i]? = some a ∧ id ∈ a.refs := by
  constructor
  · induction l with
    | nil => simp [refsL]
    | cons b r ih =>
      simp only [refsL, List.mem_append]
      rintro (h | h)
      · exact ⟨0, b, rfl, h⟩
      · obtain ⟨i, a, h1, h2⟩ := ih h
        exact ⟨i + 1, a, h1, h2⟩
  · rintro ⟨i, a, h1, h2⟩
    exact mem_refsL h1 h2

theorem RelV.mono {x x' : Cx} {h h' : Heap} (he : Ext x x') {a : AV} {v : Value} (hr : RelV x h a v) (hev : ∀ id ∈ a.refs, Evo x h x' h' id) : RelV x' h' a v := by
  induction hr with
  | undef v => exact .undef v
  | s v => exact .s v
  | sl old l v hr => exact .sl old l v (hr.mono (he.sh old))
  | nilsl => exact .nilsl
  | esl a cap => exact .esl a cap
  | row id n v hv hle hr =>
    refine .row id n v hv (fun e s o f l hg => ?_) fun e s o f l hg hl => ?_
    · obtain ⟨o', f', l0, g0, le0, _⟩ := (hev id (by simp [AV.refs])).2 e s o f l hg
      exact Nat.le_trans (hle _ _ _ _ _ g0) le0
    · obtain ⟨o', f', l0, g0, le0, k0⟩ := (hev id (by simp [AV.refs])).2 e s o f l hg
      have hn : l0.length = l.length := by have := hle _ _ _ _ _ g0; omega
      have hk := k0 hn
      rw [hk.1, hk.2]
      exact hr e s o' f' l0 g0 (hn.trans hl)
  | ptr id off v hv hr =>
    refine .ptr id off v hv fun cs hg => ?_
    obtain ⟨⟨c0, g0⟩, hp⟩ := (hev id (by simp [AV.refs])).1 cs hg
    rw [hp]
    exact hr c0 g0
  | eptr id n i k v hv hle hr =>
    refine .eptr id n i k v hv (fun e s o f l hg => ?_) fun e s o f l hg hl => ?_
    · obtain ⟨o', f', l0, g0, le0, _⟩ := (hev id (by simp [AV.refs])).2 e s o f l hg
      exact Nat.le_trans (hle _ _ _ _ _ g0) le0
    · obtain ⟨o', f', l0, g0, le0, k0⟩ := (hev id (by simp [AV.refs])).2 e s o f l hg
      have hn : l0.length = l.length := by have := hle _ _ _ _ _ g0; omega
      rw [(k0 hn).1]
      exact hr e s o' f' l0 g0 (hn.trans hl)
  | daddr old l b o vals hc hr =>
    exact .daddr old l b o vals (fun j hj => ⟨(he.sh old _ _ (hc j hj).1).1, (he.sh old _ _ (hc j hj).1).2.trans (hc j hj).2⟩) fun j c hj => (hr j c hj).mono (he.sh old)
  | agg l vs hl _ ih => exact .agg l vs hl fun i a v h1 h2 => ih i a v h1 h2 fun id hid => hev id (by simp only [AV.refs]; exact mem_refsL h1 hid)
  | tup l vs hl _ ih => exact .tup l vs hl fun i a v h1 h2 => ih i a v h1 h2 fun id hid => hev id (by simp only [AV.refs]; exact mem_refsL h1 hid)
  | ifc t a v _ ih => exact .ifc t a v (ih fun id hid => hev id (by simpa [AV.refs] using hid))
  | clos f l vs hl _ ih => exact .clos f l vs hl fun i a v h1 h2 => ih i a v h1 h2 fun id hid => hev id (by simp only [AV.refs]; exact mem_refsL h1 hid)

/-! ### Objects -/
def Obj.mut : Obj → Prop
  | .var _ => True
  | .row _ _ _ fr _ => fr = false
  | .dead => False

def Obj.isRow : Obj → Prop
  | .row _ _ _ _ _ => True
  | _ => False

def ObjRel (x : Cx) (h : Heap) (id : Nat) : Obj → Prop
  | .dead => True
  | .var cells => ∃ arr e, x.w.heap[x.φ id]? = some (.cells arr e (0, 0)) ∧ arr.size = cells.length ∧
      ∀ (i : Nat) (a : AV), cells[i]? = some a → ∃ v, arr[i]? = some v ∧ v.oneCell' = true ∧ RelV x h a v
  | .row ety sz old fr l => ∃ arr, x.w.heap[x.φ id]? = some (.cells arr ety (0, 0)) ∧ arr.size = x.κ id * sz ∧ l.length ≤ x.κ id ∧ x.κ id ≤ maxLen ∧ 0 < sz ∧
      (∀ e ∈ l, e.length = sz) ∧ (∀ v ∈ arr, v.oneCell' = true) ∧
      (∀ (i k : Nat) (e : List C) (c : C), l[i]? = some e → e[k]? = some c → ∃ v, arr[i * sz + k]? = some v ∧ Rep x.w (x.sh old) c v) ∧
      (fr = true → ∀ j, j < l.length * sz → x.sh old (x.φ id) j) ∧ (old = false → x.B0 ≤ x.φ id)

structure Inv (G : Cf) (x : Cx) (h : Heap) : Prop where
  obj : ∀ id o, getO h id = some o → ObjRel x h id o
  inj : ∀ i j oi oj, getO h i = some oi → getO h j = some oj → oi ≠ .dead → oj ≠ .dead → x.φ i = x.φ j → i = j
  own : ∀ id o, getO h id = some o → o.mut → ∀ j, ¬ x.S (x.φ id) j
  sh : ∀ b o, x.S b o → b < x.w.heap.size
  live : ∀ id o, getO h id = some o → ∀ j ∈ o.refs, (getO h j).isSome
  glob : ∀ (g j : Nat) (c : C), (G.G g)[j]? = some c → x.S g j ∧ ∃ v, x.w.cell? ⟨g, j, none⟩ = some v ∧ Rep x.w x.S c v

/-- From one state to a later one. 'D': the slots that are kept. -/
structure Step (D : Nat → Prop) (x : Cx) (h : Heap) (x' : Cx) (h' : Heap) : Prop where
  ext : Ext x x'
  size : x.w.heap.size ≤ x'.w.heap.size
  evo : ∀ id, D id → (getO h id).isSome → Evo x h x' h' id ∧ (getO h' id).isSome
  frame : ∀ b, b < x.w.heap.size → (∀ id o, getO h id = some o → o.mut → x.φ id ≠ b) → x'.w.heap[b]? = x.w.heap[b]?
  sgrow : ∀ b o, x'.S b o → x.S b o ∨ (∃ id ob, getO h id = some ob ∧ ob.isRow ∧ ob.mut ∧ x.φ id = b) ∨ x.w.heap.size ≤ b
  fresh : ∀ id ob, getO h' id = some ob → ob.mut → (∃ id0 ob0, getO h id0 = some ob0 ∧ ob0.mut ∧ x'.φ id = x.φ id0) ∨ x.w.heap.size ≤ x'.φ id
  frow : ∀ id ob, getO h' id = some ob → ob.isRow → (∃ id0 ob0, getO h id0 = some ob0 ∧ ob0.isRow ∧ (ob.mut → ob0.mut) ∧ x'.φ id = x.φ id0) ∨ x.w.heap.size ≤ x'.φ id
  os : x'.w.os = x.w.os
  tape : x'.w.tape = x.w.tape
  output : x'.w.output = x.w.output

theorem Step.refl (D : Nat → Prop) (x : Cx) (h : Heap) : Step D x h x h where
  ext := Ext.refl x
  size := Nat.le_refl _
  evo := fun id _ hs => ⟨Evo.refl x h id, hs⟩
  frame := fun _ _ _ => rfl
  sgrow := fun _ _ hs => .inl hs
  fresh := fun id ob hg hm => .inl ⟨id, ob, hg, hm, rfl⟩
  frow := fun id ob hg hm => .inl ⟨id, ob, hg, hm, fun h => h, rfl⟩
  os := rfl
  tape := rfl
  output := rfl

theorem Step.trans {D : Nat → Prop} {x y z : Cx} {h h1 h2 : Heap} (a : Step D x h y h1) (b : Step D y h1 z h2) : Step D x h z h2 where
  ext := a.ext.trans b.ext
  size := Nat.le_trans a.size b.size
  evo := fun id hd hs => by
    obtain ⟨e1, s1⟩ := a.evo id hd hs
    obtain ⟨e2, s2⟩ := b.evo id hd s1
    exact ⟨e1.trans e2, s2⟩
  frame := fun k hk hm => by
    rw [← a.frame k hk hm]
    refine b.frame k (Nat.lt_of_lt_of_le hk a.size) fun id ob hg hmut hp => ?_
    rcases a.fresh id ob hg hmut with ⟨i0, o0, g0, m0, e0⟩ | hge
    · exact hm i0 o0 g0 m0 (e0 ▸ hp)
    · omega
  sgrow := fun k o hs => by
    rcases b.sgrow k o hs with h1' | ⟨id, ob, hg, hrow, hmut, hp⟩ | hge
    · exact a.sgrow k o h1'
    · rcases a.frow id ob hg hrow with ⟨i0, o0, g0, r0, m0, e0⟩ | hge
      · exact .inr (.inl ⟨i0, o0, g0, r0, m0 hmut, e0 ▸ hp⟩)
      · exact .inr (.inr (hp ▸ hge))
    · exact .inr (.inr (Nat.le_trans a.size hge))
  fresh := fun id ob hg hmut => by
    rcases b.fresh id ob hg hmut with ⟨i1, o1, g1, m1, e1⟩ | hge
    · rcases a.fresh i1 o1 g1 m1 with ⟨i0, o0, g0, m0, e0⟩ | hge
      · exact .inl ⟨i0, o0, g0, m0, e1.trans e0⟩
      · exact .inr (e1 ▸ hge)
    · exact .inr (Nat.le_trans a.size hge)
  frow := fun id ob hg hrow => by
    rcases b.frow id ob hg hrow with ⟨i1, o1, g1, r1, m1, e1⟩ | hge
    · rcases a.frow i1 o1 g1 r1 with ⟨i0, o0, g0, r0, m0, e0⟩ | hge
      · exact .inl ⟨i0, o0, g0, r0, fun h => m0 (m1 h), e1.trans e0⟩
      · exact .inr (e1 ▸ hge)
    · exact .inr (Nat.le_trans a.size hge)
  os := b.os.trans a.os
  tape := b.tape.trans a.tape
  output := b.output.trans a.output

theorem Step.weaken {D D' : Nat → Prop} {x x' : Cx} {h h' : Heap} (hs : Step D x h x' h') (hd : ∀ id, D' id → D id) : Step D' x h x' h' :=
  { hs with evo := fun id hd' => hs.evo id (hd id hd') }

/-- All references are there. -/
def Live (h : Heap) (l : List AV) : Prop := ∀ id ∈ refsL l, (getO h id).isSome

/-- A value behind a step. -/
theorem RelV.step {D : Nat → Prop} {x x' : Cx} {h h' : Heap} (hs : Step D x h x' h') {a : AV} {v : Value} (hr : RelV x h a v) (hl : ∀ id ∈ a.refs, D id ∧ (getO h id).isSome) : RelV x' h' a v :=
  hr.mono hs.ext fun id hid => (hs.evo id (hl id hid).1 (hl id hid).2).1

/-- A state of the evaluator and one of the model. -/
structure RelS (G : Cf) (x : Cx) (st : St) (a : Act) : Prop where
  inv : Inv G x st.h
  b0 : x.B0 ≤ x.w.heap.size
  size : a.tmps.size = st.t.length
  vals : ∀ i, i < st.t.length → RelV x st.h (st.t.getD i .undef) (a.tmps.getD i undef)
  live : Live st.h st.t

theorem getD_mem {l : List AV} {i : Nat} {id : Nat} (h : id ∈ (l.getD i .undef).refs) : id ∈ refsL l := by
  by_cases hi : i < l.length
  · have : l[i]? = some (l.getD i .undef) := by simp [List.getD, List.getElem?_eq_getElem hi]
    exact mem_refsL this h
  · have : l.getD i .undef = .undef := by simp [List.getD, List.getElem?_eq_none (Nat.le_of_not_lt hi)]
    rw [this] at h
    simp [AV.refs] at h

theorem RelS.val {G : Cf} {x : Cx} {st : St} {a : Act} (h : RelS G x st a) (i : Nat) : RelV x st.h (st.t.getD i .undef) (a.tmps.getD i undef) := by
  by_cases hi : i < st.t.length
  · exact h.vals i hi
  · have : st.t.getD i .undef = .undef := by simp [List.getD, List.getElem?_eq_none (Nat.le_of_not_lt hi)]
    rw [this]
    exact .undef _

end Go.Ev
