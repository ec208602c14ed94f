/-
  How the evaluator's states are kept while the world grows: one slot at a time.
-/
import Derived.Test.YtebiajdkgpcidaaEvRel
import Derived.Laws.Tables
set_option linter.unusedSimpArgs false
set_option linter.unusedVariables false
namespace Go.Ev

theorem getO_set {h : Heap} {s : Nat} {o : Option Obj} (hs : s < h.length) (id : Nat) : getO (h.set s o) id = if id = s then o else getO h id := by
  unfold getO
  by_cases he : id = s
  · subst he
    simp [List.getD, hs]
  · rw [if_neg he]
    simp [List.getD, Ne.symm he]

theorem getO_lt {h : Heap} {id : Nat} (hs : (getO h id).isSome) : id < h.length := by
  rcases Nat.lt_or_ge id h.length with h1 | h1
  · exact h1
  · simp [getO, List.getD, List.getElem?_eq_none h1] at hs

theorem ObjRel.mono {x x' : Cx} {h h' : Heap} {id : Nat} {o : Obj} (hr : ObjRel x h id o) (he : Ext x x') (hb : x'.w.heap[x.φ id]? = x.w.heap[x.φ id]?) (hp : x'.φ id = x.φ id) (hk : x'.κ id = x.κ id)
    (hev : ∀ j ∈ o.refs, Evo x h x' h' j) : ObjRel x' h' id o := by
  cases o with
  | dead => trivial
  | var cells =>
    obtain ⟨arr, e, h1, h2, h3⟩ := hr
    refine ⟨arr, e, by rw [hp, hb]; exact h1, h2, fun i a ha => ?_⟩
    obtain ⟨v, hv, h1v, hrv⟩ := h3 i a ha
    exact ⟨v, hv, h1v, hrv.mono he fun j hj => hev j (mem_refsL ha hj)⟩
  | row ety sz old fr l =>
    obtain ⟨arr, h1, h2, h3, h4, h5, h6, h7, h8, h9, h10⟩ := hr
    refine ⟨arr, by rw [hp, hb]; exact h1, by rw [hk]; exact h2, by rw [hk]; exact h3, by rw [hk]; exact h4, h5, h6, h7, fun i k e c hi hc => ?_, fun hf j hj => ?_, fun ho => by rw [he.b0, hp]; exact h10 ho⟩
    · obtain ⟨v, hv, hrv⟩ := h8 i k e c hi hc
      exact ⟨v, hv, hrv.mono (he.sh old)⟩
    · rw [hp]
      exact (he.sh old _ _ (h9 hf j hj)).1

/-- One slot is given a new object; the others stay. -/
theorem Inv.update {G : Cf} {x x' : Cx} {h h' : Heap} (hi : Inv G x h) (s : Nat) (hst : Step (fun _ => True) x h x' h')
    (hh : ∀ id, id ≠ s → getO h' id = getO h id)
    (hp : ∀ id, id ≠ s → x'.φ id = x.φ id) (hk : ∀ id, id ≠ s → x'.κ id = x.κ id)
    (hb : ∀ id o, id ≠ s → getO h id = some o → o ≠ .dead → x'.w.heap[x.φ id]? = x.w.heap[x.φ id]?)
    (hS : ∀ id o, id ≠ s → getO h id = some o → o.mut → ∀ j, ¬ x'.S (x.φ id) j)
    (hsh : ∀ b o, x'.S b o → b < x'.w.heap.size)
    (hn : ∀ o', getO h' s = some o' → ObjRel x' h' s o' ∧ (∀ j ∈ o'.refs, (getO h' j).isSome) ∧ (o'.mut → ∀ j, ¬ x'.S (x'.φ s) j) ∧
      (o' ≠ .dead → ∀ id o, id ≠ s → getO h id = some o → o ≠ .dead → x'.φ s ≠ x.φ id)) : Inv G x' h' where
  obj := fun id o hg => by
    by_cases he : id = s
    · subst he; exact (hn o hg).1
    · rw [hh id he] at hg
      by_cases hd : o = .dead
      · subst hd; trivial
      · exact (hi.obj id o hg).mono hst.ext (hb id o he hg hd) (hp id he) (hk id he) fun j hj => (hst.evo j trivial (hi.live id o hg j hj)).1
  inj := fun i j oi oj gi gj di dj hpp => by
    by_cases hi' : i = s
    · by_cases hj' : j = s
      · rw [hi', hj']
      · exfalso
        rw [hi'] at gi hpp
        rw [hh j hj'] at gj
        rw [hp j hj'] at hpp
        exact (hn oi gi).2.2.2 di j oj hj' gj dj hpp
    · rw [hh i hi'] at gi
      rw [hp i hi'] at hpp
      by_cases hj' : j = s
      · exfalso
        rw [hj'] at gj hpp
        exact (hn oj gj).2.2.2 dj i oi hi' gi di hpp.symm
      · rw [hh j hj'] at gj
        rw [hp j hj'] at hpp
        exact hi.inj i j oi oj gi gj di dj hpp
  own := fun id o hg hm j => by
    by_cases he : id = s
    · subst he; exact (hn o hg).2.2.1 hm j
    · rw [hh id he] at hg
      rw [hp id he]
      exact hS id o he hg hm j
  sh := hsh
  live := fun id o hg j hj => by
    by_cases he : id = s
    · subst he; exact (hn o hg).2.1 j hj
    · rw [hh id he] at hg
      exact (hst.evo j trivial (hi.live id o hg j hj)).2
  glob := fun g j c hg => by
    obtain ⟨h1, v, h2, h3⟩ := hi.glob g j c hg
    exact ⟨(hst.ext.cells _ _ h1).1, v, ((hst.ext.cells _ _ h1).2).trans h2, h3.mono fun b o hs => hst.ext.cells b o hs⟩

/-- The world changed, but not its memory. -/
theorem Step.sameHeap {x : Cx} {h : Heap} {w' : World} (hh : w'.heap = x.w.heap) (ho : w'.os = x.w.os) (ht : w'.tape = x.w.tape) (hu : w'.output = x.w.output) :
    Step (fun _ => True) x h { x with w := w' } h where
  ext := ⟨rfl, fun b o hs => ⟨hs, by simp [World.cell?, hh]⟩⟩
  size := by simp [hh]
  evo := fun id _ hs => ⟨.same rfl rfl rfl, hs⟩
  frame := fun b _ _ => by simp [hh]
  sgrow := fun b o hs => .inl hs
  fresh := fun id ob hg hm => .inl ⟨id, ob, hg, hm, rfl⟩
  frow := fun id ob hg hm => .inl ⟨id, ob, hg, hm, fun h => h, rfl⟩
  os := ho
  tape := ht
  output := hu

theorem Inv.sameHeap {G : Cf} {x : Cx} {h : Heap} (hi : Inv G x h) {w' : World} (hh : w'.heap = x.w.heap) (ho : w'.os = x.w.os) (ht : w'.tape = x.w.tape) (hu : w'.output = x.w.output) :
    Inv G { x with w := w' } h := by
  have hst := Step.sameHeap (h := h) hh ho ht hu
  exact {
    obj := fun id o hg => (hi.obj id o hg).mono hst.ext (by simp [hh]) rfl rfl fun j hj => .same rfl rfl rfl
    inj := hi.inj
    own := hi.own
    sh := fun b o hs => by simpa [hh] using hi.sh b o hs
    live := hi.live
    glob := fun g j c hg => by
      obtain ⟨h1, v, h2, h3⟩ := hi.glob g j c hg
      exact ⟨h1, v, by simpa [World.cell?, hh] using h2, h3.mono fun b o hs => hst.ext.cells b o hs⟩ }

/-! ### A new block -/
def upd (f : Nat → Nat) (s v : Nat) (i : Nat) : Nat := if i = s then v else f i
@[simp] theorem upd_same (f : Nat → Nat) (s v : Nat) : upd f s v s = v := by simp [upd]
theorem upd_other (f : Nat → Nat) {s v i : Nat} (h : i ≠ s) : upd f s v i = f i := by simp [upd, h]

/-- The world behind the making of a block. -/
structure Made (w w' : World) (arr : Array Value) (e : TypeId) (fr : Nat × Nat) : Prop where
  heap : w'.heap = w.heap.push (.cells arr e fr)
  os : w'.os = w.os
  tape : w'.tape = w.tape
  output : w'.output = w.output

theorem Made.size {w w' : World} {arr : Array Value} {e : TypeId} {fr : Nat × Nat} (h : Made w w' arr e fr) : w'.heap.size = w.heap.size + 1 := by simp [h.heap]
theorem Made.old {w w' : World} {arr : Array Value} {e : TypeId} {fr : Nat × Nat} (h : Made w w' arr e fr) {b : Nat} (hb : b < w.heap.size) : w'.heap[b]? = w.heap[b]? := by
  rw [h.heap, Array.getElem?_push, if_neg (Nat.ne_of_lt hb)]
theorem Made.new {w w' : World} {arr : Array Value} {e : TypeId} {fr : Nat × Nat} (h : Made w w' arr e fr) : w'.heap[w.heap.size]? = some (.cells arr e fr) := by
  rw [h.heap]; simp
theorem Made.cell {w w' : World} {arr : Array Value} {e : TypeId} {fr : Nat × Nat} (h : Made w w' arr e fr) {b o : Nat} (hb : b < w.heap.size) : w'.cell? ⟨b, o, none⟩ = w.cell? ⟨b, o, none⟩ := by
  simp [World.cell?, h.old hb]
theorem Made.cellNew {w w' : World} {arr : Array Value} {e : TypeId} {fr : Nat × Nat} (h : Made w w' arr e fr) (o : Nat) : w'.cell? ⟨w.heap.size, o, none⟩ = arr[o]? := by
  simp [World.cell?, h.new]

/-- The slot 's' is given the new block. -/
def Cx.make (x : Cx) (w' : World) (s cap : Nat) : Cx := { x with w := w', φ := upd x.φ s x.w.heap.size, κ := upd x.κ s cap }

theorem Step.make {x : Cx} {h : Heap} {w' : World} {arr : Array Value} {e : TypeId} {fr : Nat × Nat} (hm : Made x.w w' arr e fr) (hsh : ∀ b o, x.S b o → b < x.w.heap.size) {s cap : Nat} {o : Obj} (hs : h[s]? = some none) :
    Step (fun _ => True) x h (x.make w' s cap) (h.set s (some o)) := by
  have hlt : s < h.length := (List.getElem?_eq_some_iff.1 hs).1
  have hnone : getO h s = none := by simp [getO, List.getD, hs]
  exact {
    ext := ⟨rfl, fun b o hS => ⟨hS, hm.cell (hsh b o hS)⟩⟩
    size := by simp [Cx.make, hm.size]
    evo := fun id _ hi => by
      have hne : id ≠ s := fun he => by rw [he, hnone] at hi; simp at hi
      refine ⟨.same (by rw [getO_set hlt, if_neg hne]) (upd_other _ hne) (upd_other _ hne), ?_⟩
      rw [getO_set hlt, if_neg hne]; exact hi
    frame := fun b hb _ => hm.old hb
    sgrow := fun b o hS => .inl hS
    fresh := fun id ob hg hmut => by
      by_cases hne : id = s
      · right; simp [Cx.make, hne]
      · left
        rw [getO_set hlt, if_neg hne] at hg
        exact ⟨id, ob, hg, hmut, upd_other _ hne⟩
    frow := fun id ob hg hrow => by
      by_cases hne : id = s
      · right; simp [Cx.make, hne]
      · left
        rw [getO_set hlt, if_neg hne] at hg
        exact ⟨id, ob, hg, hrow, fun h => h, upd_other _ hne⟩
    os := hm.os
    tape := hm.tape
    output := hm.output }

theorem block_lt {G : Cf} {x : Cx} {h : Heap} (hi : Inv G x h) {id : Nat} {o : Obj} (hg : getO h id = some o) (hd : o ≠ .dead) : x.φ id < x.w.heap.size := by
  have := hi.obj id o hg
  cases o with
  | dead => exact absurd rfl hd
  | var cells => obtain ⟨arr, e, h1, _⟩ := this; exact (Array.getElem?_eq_some_iff.1 h1).1
  | row ety sz old fr l => obtain ⟨arr, h1, _⟩ := this; exact (Array.getElem?_eq_some_iff.1 h1).1

theorem Obj.mut_ne {o : Obj} (h : o.mut) : o ≠ .dead := by rintro rfl; exact h

theorem Inv.make {G : Cf} {x : Cx} {h : Heap} (hi : Inv G x h) {w' : World} {arr : Array Value} {e : TypeId} (hm : Made x.w w' arr e (0, 0)) {s cap : Nat} {o : Obj} (hs : h[s]? = some none)
    (hrel : ObjRel (x.make w' s cap) (h.set s (some o)) s o) (hlive : ∀ j ∈ o.refs, (getO (h.set s (some o)) j).isSome) :
    Inv G (x.make w' s cap) (h.set s (some o)) := by
  have hlt : s < h.length := (List.getElem?_eq_some_iff.1 hs).1
  refine hi.update s (Step.make hm hi.sh hs) (fun id hne => by rw [getO_set hlt, if_neg hne]) (fun id hne => upd_other _ hne) (fun id hne => upd_other _ hne)
    (fun id o' _ hg hd => hm.old (block_lt hi hg hd)) (fun id o' _ hg hmut => hi.own id o' hg hmut) (fun b o hS => ?_) (fun o' hg => ?_)
  · have := hi.sh b o hS
    simp only [Cx.make, hm.size]; omega
  · rw [getO_set hlt, if_pos rfl] at hg
    injection hg with hg
    subst hg
    refine ⟨hrel, hlive, fun _ j hS => ?_, fun _ id o' _ hg' hd' => ?_⟩
    · have := hi.sh _ _ hS
      simp [Cx.make] at this
    · have := block_lt hi hg' hd'
      simp only [Cx.make, upd_same]
      omega

/-- New cells that nobody will write. -/
def Cx.lay (x : Cx) (w' : World) (n : Nat) : Cx := { x with w := w', S := fun b o => x.S b o ∨ (b = x.w.heap.size ∧ o < n) }

theorem Step.lay {x : Cx} {h : Heap} {w' : World} {arr : Array Value} {e : TypeId} {fr : Nat × Nat} (hm : Made x.w w' arr e fr) (hsh : ∀ b o, x.S b o → b < x.w.heap.size) (n : Nat) :
    Step (fun _ => True) x h (x.lay w' n) h where
  ext := ⟨rfl, fun b o hS => ⟨.inl hS, hm.cell (hsh b o hS)⟩⟩
  size := by simp [Cx.lay, hm.size]
  evo := fun id _ hi => ⟨.same rfl rfl rfl, hi⟩
  frame := fun b hb _ => hm.old hb
  sgrow := fun b o hS => hS.elim .inl fun hb => .inr (.inr (by omega))
  fresh := fun id ob hg hmut => .inl ⟨id, ob, hg, hmut, rfl⟩
  frow := fun id ob hg hrow => .inl ⟨id, ob, hg, hrow, fun h => h, rfl⟩
  os := hm.os
  tape := hm.tape
  output := hm.output

theorem Inv.lay {G : Cf} {x : Cx} {h : Heap} (hi : Inv G x h) {w' : World} {arr : Array Value} {e : TypeId} {fr : Nat × Nat} (hm : Made x.w w' arr e fr) (n : Nat) : Inv G (x.lay w' n) h := by
  have hst := Step.lay (h := h) hm hi.sh n
  exact {
    obj := fun id o hg => by
      by_cases hd : o = .dead
      · subst hd; trivial
      · exact (hi.obj id o hg).mono hst.ext (hm.old (block_lt hi hg hd)) rfl rfl fun j hj => .same rfl rfl rfl
    inj := hi.inj
    own := fun id o hg hmut j hS => hS.elim (hi.own id o hg hmut j) fun hb => by
      have := block_lt hi hg (Obj.mut_ne hmut)
      simp only [Cx.lay] at hb
      omega
    sh := fun b o hS => by
      simp only [Cx.lay, hm.size]
      rcases hS with hS | hS
      · have := hi.sh b o hS; omega
      · omega
    live := hi.live
    glob := fun g j c hg => by
      obtain ⟨h1, v, h2, h3⟩ := hi.glob g j c hg
      exact ⟨.inl h1, v, ((hst.ext.cells _ _ h1).2).trans h2, h3.mono fun b o hs => hst.ext.cells b o hs⟩ }

/-! ### An object that is written -/
/-- The block of the slot 's' holds other cells. -/
structure Wrote (w w' : World) (g : Nat) (arr : Array Value) (e : TypeId) : Prop where
  size : w'.heap.size = w.heap.size
  new : w'.heap[g]? = some (.cells arr e (0, 0))
  old : ∀ b, b ≠ g → w'.heap[b]? = w.heap[b]?
  os : w'.os = w.os
  tape : w'.tape = w.tape
  output : w'.output = w.output

theorem Step.write {G : Cf} {x : Cx} {h : Heap} (hi : Inv G x h) {w' : World} {s : Nat} {arr : Array Value} {e : TypeId} {o o' : Obj} (hw : Wrote x.w w' (x.φ s) arr e) (hg : getO h s = some o) (hmut : o.mut)
    (hev : Evo x h { x with w := w' } (h.set s (some o')) s) : Step (fun _ => True) x h { x with w := w' } (h.set s (some o')) := by
  have hlt := getO_lt (by rw [hg]; rfl : (getO h s).isSome)
  exact {
    ext := ⟨rfl, fun b o hS => ⟨hS, by
      have hne : b ≠ x.φ s := fun he => hi.own s _ hg hmut o (he ▸ hS)
      simp [World.cell?, hw.old b hne]⟩⟩
    size := by simp [hw.size]
    evo := fun id _ hid => by
      by_cases hne : id = s
      · subst hne
        exact ⟨hev, by rw [getO_set hlt, if_pos rfl]; rfl⟩
      · exact ⟨.same (by rw [getO_set hlt, if_neg hne]) rfl rfl, by rw [getO_set hlt, if_neg hne]; exact hid⟩
    frame := fun b hb hm => hw.old b fun he => hm s o hg hmut he.symm
    sgrow := fun b o hS => .inl hS
    fresh := fun id ob hg' hmut' => by
      left
      by_cases hne : id = s
      · exact ⟨s, o, hg, hmut, by rw [hne]⟩
      · rw [getO_set hlt, if_neg hne] at hg'
        exact ⟨id, ob, hg', hmut', rfl⟩
    frow := fun id ob hg' hrow => by
      left
      by_cases hne : id = s
      · subst hne
        cases ob <;> simp only [Obj.isRow] at hrow
        obtain ⟨_, _, _, g0, _⟩ := hev.2 _ _ _ _ _ hg'
        exact ⟨id, _, g0, trivial, fun _ => by rw [hg] at g0; injection g0 with g0; exact g0 ▸ hmut, rfl⟩
      · rw [getO_set hlt, if_neg hne] at hg'
        exact ⟨id, ob, hg', hrow, fun h => h, rfl⟩
    os := hw.os
    tape := hw.tape
    output := hw.output }

theorem Inv.write {G : Cf} {x : Cx} {h : Heap} (hi : Inv G x h) {w' : World} {s : Nat} {arr : Array Value} {e : TypeId} {o o' : Obj} (hw : Wrote x.w w' (x.φ s) arr e) (hg : getO h s = some o) (hmut : o.mut)
    (hev : Evo x h { x with w := w' } (h.set s (some o')) s) (hrel : ObjRel { x with w := w' } (h.set s (some o')) s o') (hlive : ∀ j ∈ o'.refs, (getO (h.set s (some o')) j).isSome) :
    Inv G { x with w := w' } (h.set s (some o')) := by
  have hlt := getO_lt (by rw [hg]; rfl : (getO h s).isSome)
  refine hi.update s (Step.write hi hw hg hmut hev) (fun id hne => by rw [getO_set hlt, if_neg hne]) (fun _ _ => rfl) (fun _ _ => rfl)
    (fun id ob hne hg' hd => hw.old _ fun he => hne (hi.inj id s ob o hg' hg hd (Obj.mut_ne hmut) he)) (fun id ob _ hg' hm' => hi.own id ob hg' hm') (fun b o hS => ?_) (fun ob hg' => ?_)
  · simpa [hw.size] using hi.sh b o hS
  · rw [getO_set hlt, if_pos rfl] at hg'
    injection hg' with hg'
    subst hg'
    exact ⟨hrel, hlive, fun _ j => hi.own s o hg hmut j, fun _ id ob hne hgi hd he => hne (hi.inj id s ob o hgi hg hd (Obj.mut_ne hmut) he.symm)⟩

end Go.Ev
