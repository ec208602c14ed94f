/-
  Boxes that nobody writes; pointers that stay; a world that grew above.
-/
import Derived.Test.YtfihodpdjpcpfaaLSpoil10
set_option linter.unusedSimpArgs false
set_option linter.unusedVariables false
set_option maxRecDepth 200000
set_option maxHeartbeats 4000000
namespace Go.Proofs.Ytfihodpdjpcpfaa
open Go.Ev

theorem reg_ok {c : Code} {qs : List Opr} {st st' : St} {x : Cx} {a : Act} {Q : Exit → Act → World → Prop} (htr : trIR Try.prog c (.reg [] qs) = some (.reg [] qs)) (hs : RelS G0 x st a) (he : app tab G0 3 [] (ex tab G0 3 (.reg [] qs) st) = some (.normal, st'))
    (hQ : ∀ x' a', RelS G0 x' st' a' → Step (fun _ => True) x st.h x' st'.h → a'.defers = a.defers → Q .normal a' x'.w) : c.wp Try.prog Q a x.w := by
  obtain ⟨id, ops, draw, rfl, _, h⟩ := trIR_reg htr
  obtain ⟨n, h1, h2⟩ := reg_of he
  exact region_ok (evN_ok (G := G0) tabOk xokN gfN n) h hs h1 h2 hQ
def frzA : AV → AV
  | .ptr id 0 => .eptr id 1 0 0
  | .s v => .s v
  | _ => .undef
theorem frz_getD (l : List AV) (i : Nat) : (l.map frzA).getD i .undef = frzA (l.getD i .undef) := by
  simp only [List.getD_eq_getElem?_getD, List.getElem?_map]
  cases l[i]? <;> rfl
theorem frz_refs {a : AV} {id : Nat} (h : id ∈ (frzA a).refs) : id ∈ a.refs := by
  unfold frzA at h
  split at h
  · exact h
  · exact h
  · simp [AV.refs] at h
theorem ofC_rel {x : Cx} {h : Heap} {c : C} {v : Value} (hr : RelV x h (ofC true c) v) (h1 : v.oneCell' = true) : Rep x.w (x.sh true) c v := by
  cases c with
  | sc u =>
    have hr' : RelV x h (.s u) v := hr
    have := hr'.s_inv
    subst this
    exact .sc _ h1
  | sl l =>
    have hr' : RelV x h (.sl true l) v := hr
    cases hr' with
    | sl _ _ _ hr => exact hr
theorem box_cells {x : Cx} {h : Heap} {id : Nat} {l : List C} (ho : ObjRel x h id (.var (l.map (ofC true)))) : ∃ arr e, x.w.heap[x.φ id]? = some (.cells arr e (0, 0)) ∧ arr.size = l.length ∧ ∀ (k : Nat) (c : C), l[k]? = some c → ∃ v, arr[k]? = some v ∧ v.oneCell' = true ∧ Rep x.w (x.sh true) c v := by
  obtain ⟨arr, e, h1, h2, h3⟩ := ho
  refine ⟨arr, e, h1, by simpa using h2, fun k c hk => ?_⟩
  obtain ⟨v, h4, h5, h6⟩ := h3 k (ofC true c) (by simp [hk])
  exact ⟨v, h4, h5, ofC_rel h6 h5⟩
abbrev hV (c0 c1 c2 : List C) : Heap := [some (.var (c0.map (ofC true))), some (.var (c1.map (ofC true))), some (.var (c2.map (ofC true)))]
abbrev hR (e0 e1 e2 : Nat) (c0 c1 c2 : List C) : Heap := [some (.row e0 c0.length true true [c0]), some (.row e1 c1.length true true [c1]), some (.row e2 c2.length true true [c2])]
theorem hR_get {e0 e1 e2 : Nat} {c0 c1 c2 : List C} {id : Nat} {o : Ev.Obj} (hg : getO (hR e0 e1 e2 c0 c1 c2) id = some o) : (id = 0 ∧ o = .row e0 c0.length true true [c0]) ∨ (id = 1 ∧ o = .row e1 c1.length true true [c1]) ∨ (id = 2 ∧ o = .row e2 c2.length true true [c2]) := by
  match id, hg with
  | 0, hg => simp [getO] at hg; exact .inl ⟨rfl, hg.symm⟩
  | 1, hg => simp [getO] at hg; exact .inr (.inl ⟨rfl, hg.symm⟩)
  | 2, hg => simp [getO] at hg; exact .inr (.inr ⟨rfl, hg.symm⟩)
  | k + 3, hg => simp [getO] at hg
theorem hV_get {c0 c1 c2 : List C} {id : Nat} (h : id < 3) : ∃ c : List C, getO (hV c0 c1 c2) id = some (.var (c.map (ofC true))) := by
  match id, h with
  | 0, _ => exact ⟨c0, rfl⟩
  | 1, _ => exact ⟨c1, rfl⟩
  | 2, _ => exact ⟨c2, rfl⟩
theorem hV_lt {c0 c1 c2 : List C} {id : Nat} (h : (getO (hV c0 c1 c2) id).isSome) : id < 3 := getO_lt h
theorem hR_some {e0 e1 e2 : Nat} {c0 c1 c2 : List C} {id : Nat} (h : id < 3) : (getO (hR e0 e1 e2 c0 c1 c2) id).isSome := by
  match id, h with
  | 0, _ => rfl
  | 1, _ => rfl
  | 2, _ => rfl
theorem row_rel {x : Cx} {h h' : Heap} {id : Nat} {l : List C} {S' : Nat → Nat → Prop} {arr : Array Value} {e : TypeId} (h1 : x.w.heap[x.φ id]? = some (.cells arr e (0, 0))) (h2 : arr.size = l.length) (h3 : ∀ (k : Nat) (c : C), l[k]? = some c → ∃ v, arr[k]? = some v ∧ v.oneCell' = true ∧ Rep x.w (x.sh true) c v)
    (hne : l ≠ []) (hS : ∀ b o, x.S b o → S' b o) (hS' : ∀ j, j < l.length → S' (x.φ id) j) : ObjRel { w := x.w, S := S', φ := x.φ, κ := fun _ => 1, B0 := x.w.heap.size } h' id (.row e l.length true true [l]) := by
  have hmx : (1 : Nat) ≤ maxLen := by decide
  refine ⟨arr, h1, by simpa using h2, by simp, hmx, List.length_pos_iff.2 hne, by simp, fun v hv => ?_, fun i k e' c hi hk => ?_, fun _ j hj => ⟨hS' j (by simpa using hj), .inl rfl⟩, fun h => by cases h⟩
  · obtain ⟨k, hk⟩ := List.getElem?_of_mem (Array.mem_toList_iff.2 hv)
    have hk' : arr[k]? = some v := by simpa using hk
    have hlt : k < l.length := by
      rw [← h2]
      exact (Array.getElem?_eq_some_iff.1 hk').1
    obtain ⟨u, h4, h5, _⟩ := h3 k l[k] (List.getElem?_eq_getElem hlt)
    rw [hk'] at h4
    injection h4 with h4
    rw [h4]; exact h5
  · match i, hi with
    | 0, hi =>
      simp only [List.getElem?_cons_zero, Option.some.injEq] at hi
      subst hi
      obtain ⟨u, h4, _, h6⟩ := h3 k c hk
      refine ⟨u, by simpa using h4, ?_⟩
      exact h6.mono fun b o hs => ⟨⟨hS b o hs.1, .inl rfl⟩, rfl⟩
    | i + 1, hi => simp at hi
/-- The boxes are taken for rows that nobody writes. -/
theorem box_rows {x : Cx} {t : List AV} {a : Act} {c0 c1 c2 : List C} (hs : RelS G0 x ⟨t, hV c0 c1 c2⟩ a) (n0 : c0 ≠ []) (n1 : c1 ≠ []) (n2 : c2 ≠ []) :
    ∃ x' e0 e1 e2, x'.w = x.w ∧ x'.φ = x.φ ∧ x'.B0 = x.w.heap.size ∧ RelS G0 x' ⟨t.map frzA, hR e0 e1 e2 c0 c1 c2⟩ a := by
  obtain ⟨a0, e0, p0, q0, r0⟩ := box_cells (hs.inv.obj 0 _ rfl)
  obtain ⟨a1, e1, p1, q1, r1⟩ := box_cells (hs.inv.obj 1 _ rfl)
  obtain ⟨a2, e2, p2, q2, r2⟩ := box_cells (hs.inv.obj 2 _ rfl)
  let S' : Nat → Nat → Prop := fun b o => x.S b o ∨ (b = x.φ 0 ∧ o < c0.length) ∨ (b = x.φ 1 ∧ o < c1.length) ∨ (b = x.φ 2 ∧ o < c2.length)
  refine ⟨{ w := x.w, S := S', φ := x.φ, κ := fun _ => 1, B0 := x.w.heap.size }, e0, e1, e2, rfl, rfl, rfl, ?_⟩
  have hlt : ∀ {id : Nat}, id < 3 → x.φ id < x.w.heap.size := fun {id} h => by
    obtain ⟨c, hc⟩ := hV_get (c0 := c0) (c1 := c1) (c2 := c2) h
    exact block_lt hs.inv hc (fun h => by cases h)
  have hid : ∀ {id : Nat} {o : Ev.Obj}, getO (hR e0 e1 e2 c0 c1 c2) id = some o → id < 3 := fun {id o} hg => by
    rcases hR_get hg with ⟨h, _⟩ | ⟨h, _⟩ | ⟨h, _⟩ <;> omega
  exact {
    inv := {
      obj := fun id o hg => by
        rcases hR_get hg with ⟨rfl, rfl⟩ | ⟨rfl, rfl⟩ | ⟨rfl, rfl⟩
        · exact row_rel (h := hV c0 c1 c2) p0 q0 r0 n0 (fun b o h => .inl h) fun j hj => .inr (.inl ⟨rfl, hj⟩)
        · exact row_rel (h := hV c0 c1 c2) p1 q1 r1 n1 (fun b o h => .inl h) fun j hj => .inr (.inr (.inl ⟨rfl, hj⟩))
        · exact row_rel (h := hV c0 c1 c2) p2 q2 r2 n2 (fun b o h => .inl h) fun j hj => .inr (.inr (.inr ⟨rfl, hj⟩))
      inj := fun i j oi oj gi gj _ _ hp => by
        obtain ⟨ci, hi⟩ := hV_get (c0 := c0) (c1 := c1) (c2 := c2) (hid gi)
        obtain ⟨cj, hj⟩ := hV_get (c0 := c0) (c1 := c1) (c2 := c2) (hid gj)
        exact hs.inv.inj i j _ _ hi hj (fun h => by cases h) (fun h => by cases h) hp
      own := fun id o hg hm => by
        rcases hR_get hg with ⟨_, rfl⟩ | ⟨_, rfl⟩ | ⟨_, rfl⟩ <;> cases hm
      sh := fun b o hS => by
        rcases hS with h | ⟨rfl, _⟩ | ⟨rfl, _⟩ | ⟨rfl, _⟩
        · exact hs.inv.sh b o h
        · exact hlt (by omega)
        · exact hlt (by omega)
        · exact hlt (by omega)
      live := fun id o hg j hj => by
        rcases hR_get hg with ⟨_, rfl⟩ | ⟨_, rfl⟩ | ⟨_, rfl⟩ <;> simp [Obj.refs] at hj
      glob := fun g j c hg => by simp [G0] at hg }
    b0 := Nat.le_refl _
    size := by simpa using hs.size
    vals := fun i _ => by
      rw [frz_getD]
      have hv := hs.val i
      generalize a.tmps.getD i undef = v at hv
      generalize (St.t ⟨t, hV c0 c1 c2⟩).getD i .undef = u at hv
      unfold frzA
      split
      · rename_i id
        cases hv with
        | ptr _ _ _ hv hr =>
          refine .eptr id 1 0 0 v hv (fun e s o f l hg => ?_) fun e s o f l hg _ => ?_
          · rcases hR_get hg with ⟨_, h⟩ | ⟨_, h⟩ | ⟨_, h⟩ <;> (cases h; simp)
          · obtain ⟨c, hc⟩ := hV_get (c0 := c0) (c1 := c1) (c2 := c2) (hid hg)
            have := hr _ hc
            simpa using this
      · have := hv.s_inv
        subst this
        exact .s _
      · exact .undef _
    live := fun id hm => by
      obtain ⟨i, h1, h2⟩ := mem_refsL_getD hm
      rw [frz_getD] at h2
      exact hR_some (hV_lt (hs.live id (getD_mem (frz_refs h2)))) }
/-- A pointer to a box is where it was. -/
theorem pin {x x' : Cx} {e0 e1 e2 : Nat} {c0 c1 c2 : List C} (hst : Step (fun _ => True) x (hR e0 e1 e2 c0 c1 c2) x' (hR e0 e1 e2 c0 c1 c2)) {id : Nat} (hid : id < 3) : x'.φ id = x.φ id := by
  obtain ⟨⟨_, h⟩, _⟩ := hst.evo id trivial (hR_some hid)
  obtain ⟨o, ho⟩ := Option.isSome_iff_exists.1 (hR_some (e0 := e0) (e1 := e1) (e2 := e2) (c0 := c0) (c1 := c1) (c2 := c2) hid)
  rcases hR_get ho with ⟨_, rfl⟩ | ⟨_, rfl⟩ | ⟨_, rfl⟩ <;>
  · obtain ⟨o', f', l, h1, _, h2⟩ := h _ _ _ _ _ ho
    rw [ho] at h1
    cases h1
    exact (h2 rfl).1
theorem eptr_is {x : Cx} {e0 e1 e2 : Nat} {c0 c1 c2 : List C} {id : Nat} (hid : id < 3) {v : Value} (hr : RelV x (hR e0 e1 e2 c0 c1 c2) (.eptr id 1 0 0) v) : v = .pointer (some ⟨x.φ id, 0, none⟩) := by
  obtain ⟨o, ho⟩ := Option.isSome_iff_exists.1 (hR_some (e0 := e0) (e1 := e1) (e2 := e2) (c0 := c0) (c1 := c1) (c2 := c2) hid)
  cases hr with
  | eptr _ _ _ _ _ _ _ hr =>
    rcases hR_get ho with ⟨_, rfl⟩ | ⟨_, rfl⟩ | ⟨_, rfl⟩ <;>
    · have := hr _ _ _ _ _ ho rfl
      simpa using this
theorem ptr_is {x : Cx} {c0 c1 c2 : List C} {id : Nat} (hid : id < 3) {v : Value} (hr : RelV x (hV c0 c1 c2) (.ptr id 0) v) : v = .pointer (some ⟨x.φ id, 0, none⟩) := by
  obtain ⟨c, hc⟩ := hV_get (c0 := c0) (c1 := c1) (c2 := c2) hid
  cases hr with
  | ptr _ _ _ _ hr => exact hr _ hc
theorem lowR {x x' : Cx} {e0 e1 e2 : Nat} {c0 c1 c2 : List C} {h' : Heap} {N : Nat} (hN : N ≤ x.w.heap.size) (hst : Step (fun _ => True) x (hR e0 e1 e2 c0 c1 c2) x' h') : Low N x.w x'.w :=
  ⟨hst.size, fun b hb => hst.frame b (Nat.lt_of_lt_of_le hb hN) (fun id o hg hm => by rcases hR_get hg with ⟨_, rfl⟩ | ⟨_, rfl⟩ | ⟨_, rfl⟩ <;> cases hm), hst.os, hst.tape, hst.output, hst.nf N⟩
theorem nf_size (w : World) : NF w.heap.size w := fun b o hb hc => by
  simp [World.cell?, Array.getElem?_eq_none hb] at hc
theorem stepLow {G : Cf} {x : Cx} {h : Heap} (hi : Inv G x h) {w' : World} (hL : Low x.w.heap.size x.w w') (D : Nat → Prop) : Step D x h { x with w := w' } h where
  ext := (invLow hi hL.size hL.low).2
  size := hL.size
  evo := fun id _ hs => ⟨.same rfl rfl rfl, hs⟩
  frame := fun b hb _ => hL.low b hb
  sgrow := fun b o hs => .inl hs
  fresh := fun id ob hg hm => .inl ⟨id, ob, hg, hm, rfl⟩
  frow := fun id ob hg hm => .inl ⟨id, ob, hg, hm, fun h => h, rfl⟩
  os := hL.os
  tape := hL.tape
  output := hL.output
  nf := fun N hn b o hb hc => by
    by_cases hlt : b < x.w.heap.size
    · have := hL.low b hlt
      simp only [World.cell?, World.frozen?] at hc ⊢
      rw [show ({ x with w := w' } : Cx).w.heap[b]? = x.w.heap[b]? from this] at hc ⊢
      exact hn b o hb hc
    · exact hL.nf (nf_size _) b o (Nat.le_of_not_lt hlt) hc

end Go.Proofs.Ytfihodpdjpcpfaa
