/-
  Statements, and functions: what the evaluator says of a function's body is what the model does.
-/
import Derived.Test.YtebiajdkgpcidaaEvReg2
import Derived.Deep.LoopGhost
set_option linter.unusedSimpArgs false
set_option linter.unusedVariables false
namespace Go.Ev

/-! ### The translation -/
def trIR (P : Program) : Code → IR → Option IR
  | .skip, _ => some .skip
  | .region _ ops draw, .reg pairs l => (trReg P ops draw pairs l).map (.reg pairs)
  | .seq a b, .seq x y => match trIR P a x, trIR P b y with
    | some x', some y' => some (.seq x' y')
    | _, _ => none
  | .cond c a b, .cond _ x y => match trIR P a x, trIR P b y with
    | some x', some y' => some (.cond (trO c) x' y')
    | _, _ => none
  | .block id a, .block _ k x => (trIR P a x).map (.block id k)
  | .loop a, .loop k x => (trIR P a x).map (.loop k)
  | .exit id, .exit _ k => some (.exit id k)
  | .ret, .ret k => some (.ret k)
  | _, _ => none

def trRes (P : Program) : List ResultVar → Option (List Res)
  | [] => some []
  | .tmp t :: r => (trRes P r).map (.tmp t :: ·)
  | .cell t ty :: r => match tagg P ty, tsize P ty, trRes P r with
    | some ag, some sz, some l => some (.cell t ag sz :: l)
    | _, _, _ => none

def trFn (P : Program) (f : Func) (an : Fn) : Option Fn := match f.body with
  | some c => match trIR P c an.body, trRes P f.results.toList with
    | some b, some r => if f.name == "runtime.NumGoroutine" then none else some ⟨an.na, f.ntmps, an.ns, b, r, an.keep, an.nilq, an.raw⟩
    | _, _ => none
  | none => none

mutual
theorem AV.tr_id : ∀ a : AV, a.tr (fun i => i) (fun o => o) = a
  | .undef => rfl
  | .s v => rfl
  | .sl o l => rfl
  | .nilsl => rfl
  | .esl => rfl
  | .row id n => rfl
  | .ptr id o => rfl
  | .eptr id n i k => rfl
  | .daddr o l => rfl
  | .agg l => by simp only [AV.tr]; rw [trL_id l]
  | .tup l => by simp only [AV.tr]; rw [trL_id l]
  | .ifc t v => by simp only [AV.tr]; rw [AV.tr_id v]
  | .clos f l => by simp only [AV.tr]; rw [trL_id l]
theorem trL_id : ∀ l : List AV, trL (fun i => i) (fun o => o) l = l
  | [] => rfl
  | a :: l => by simp only [trL]; rw [AV.tr_id a, trL_id l]
end

theorem ageL_eq (l : List AV) : ageL true l = trL (fun i => i) (fun _ => true) l := by
  have := ageL_tr (fun i => i) (fun o => o) true l
  rwa [trL_id] at this

theorem refsL_age (l : List AV) : refsL (ageL true l) = refsL l := by
  rw [ageL_eq, refsL_tr]
  simp

theorem RelV.ageL {x : Cx} {h : Heap} {l : List AV} {us : List Value} (hr : ∀ (i : Nat) (b : AV) (v : Value), l[i]? = some b → us[i]? = some v → RelV x h b v) :
    ∀ (i : Nat) (b : AV) (v : Value), (Ev.ageL true l)[i]? = some b → us[i]? = some v → RelV x h b v := fun i b v h1 h2 => by
  rw [ageL_eq, trL_map, List.getElem?_map, Option.map_eq_some_iff] at h1
  obtain ⟨b0, h3, rfl⟩ := h1
  refine (hr i b0 v h3 h2).tr (ob := true) (fun o b q _ hS => ⟨⟨hS.1, .inl rfl⟩, rfl⟩) (fun _ => rfl) fun id _ => ⟨fun cs hg => ⟨⟨cs, hg⟩, rfl⟩, fun e s o f l hg => ⟨o, f, hg, rfl, rfl⟩⟩

/-! ### Dropping what is not needed any more -/
theorem reachN_nodup : ∀ (n : Nat) (h : Heap) (w seen : List Nat), seen.Nodup → (reachN n h w seen).Nodup
  | 0, _, _, _, hn => hn
  | n + 1, _, [], _, hn => hn
  | n + 1, h, i :: w, seen, hn => by
    simp only [reachN]
    split
    · exact reachN_nodup n h w seen hn
    · rename_i hc
      refine reachN_nodup n h _ _ ?_
      refine List.nodup_append.2 ⟨hn, by simp, fun a ha b hb hab => ?_⟩
      simp only [List.mem_singleton] at hb
      subst hb; subst hab
      simp at hc
      exact hc ha

theorem getO_prune {ns : Nat} {ids : List Nat} {h : Heap} {i : Nat} : getO (prune ns ids h) i = if i < ns ∧ i ∉ ids then none else getO h i := by
  simp only [prune, getO, List.getD_eq_getElem?_getD, List.getElem?_mapIdx]
  cases h1 : h[i]? with
  | none => simp
  | some o =>
    by_cases c1 : i < ns <;> by_cases c2 : i ∈ ids <;> simp [c1, c2]

theorem keepT_get : ∀ (ks : List Bool) (t : List AV) (i : Nat), (keepT ks t).getD i .undef = t.getD i .undef ∨ (keepT ks t).getD i .undef = .undef
  | [], t, i => .inl rfl
  | true :: k, [], i => .inl rfl
  | false :: k, [], i => .inl rfl
  | true :: k, v :: r, 0 => .inl rfl
  | false :: k, v :: r, 0 => .inr rfl
  | true :: k, v :: r, i + 1 => by simpa [keepT] using keepT_get k r i
  | false :: k, v :: r, i + 1 => by simpa [keepT] using keepT_get k r i
theorem keepT_len : ∀ (ks : List Bool) (t : List AV), (keepT ks t).length = t.length
  | [], t => rfl
  | true :: k, [] => rfl
  | false :: k, [] => rfl
  | true :: k, v :: r => by simp [keepT, keepT_len k r]
  | false :: k, v :: r => by simp [keepT, keepT_len k r]

theorem mem_refsL_getD {l : List AV} {id : Nat} (h : id ∈ refsL l) : ∃ i, i < l.length ∧ id ∈ (l.getD i .undef).refs := by
  obtain ⟨i, a, h1, h2⟩ := mem_refsL_iff.1 h
  exact ⟨i, (List.getElem?_eq_some_iff.1 h1).1, by simpa [List.getD, h1] using h2⟩

section
variable {P : Program} {G : Cf} {F : FnEv} {x : Cx} {st : St} {a : Act}

/-- A step that keeps the slots from 'ns' on. -/
abbrev SStep (ns : Nat) := Step (fun id => ns ≤ id)

theorem keep_rel (hs : RelS G x st a) (ks : List Bool) : RelS G x ⟨keepT ks st.t, st.h⟩ a where
  inv := hs.inv
  b0 := hs.b0
  size := by simpa [keepT_len] using hs.size
  vals := fun i hi => by
    simp only [keepT_len] at hi
    rcases keepT_get ks st.t i with h | h <;> rw [h]
    · exact hs.vals i hi
    · exact .undef _
  live := fun id hid => by
    obtain ⟨i, _, h2⟩ := mem_refsL_getD hid
    rcases keepT_get ks st.t i with h | h <;> rw [h] at h2
    · exact hs.live id (getD_mem h2)
    · simp [AV.refs] at h2

theorem prune_ok {t : List AV} (hs : RelS G x ⟨t, st.h⟩ a) {ns : Nat} {ids : List Nat} (hc : closed st.h (refsL t ++ List.range' ns (st.h.length - ns)) ids = true) : RelS G x ⟨t, prune ns ids st.h⟩ a ∧ SStep ns x st.h x (prune ns ids st.h) := by
  obtain ⟨h1, h2, h3⟩ := closed_spec hc
  have sub : ∀ {id : Nat} {o : Obj}, getO (prune ns ids st.h) id = some o → getO st.h id = some o ∧ (id < ns → id ∈ ids) := fun {id o} hg => by
    rw [getO_prune] at hg
    split at hg
    · simp at hg
    · rename_i hn
      exact ⟨hg, fun hlt => by
        by_cases c : id ∈ ids
        · exact c
        · exact absurd ⟨hlt, c⟩ hn⟩
  have big : ∀ {id : Nat}, ns ≤ id → getO (prune ns ids st.h) id = getO st.h id := fun {id} hid => by
    rw [getO_prune, if_neg (by omega)]
  have inids : ∀ {id : Nat}, id ∈ ids → getO (prune ns ids st.h) id = getO st.h id := fun {id} hid => by
    rw [getO_prune, if_neg (fun c => c.2 hid)]
  have mem : ∀ {id : Nat} {o : Obj}, getO (prune ns ids st.h) id = some o → id ∈ ids := fun {id o} hg => by
    obtain ⟨g1, g2⟩ := sub hg
    by_cases c : id < ns
    · exact g2 c
    · refine h1 id ?_
      have := getO_lt (by rw [g1]; rfl : (getO st.h id).isSome)
      simp only [List.mem_append, List.mem_range'_1]
      exact .inr ⟨by omega, by omega⟩
  have evoAll : ∀ {id : Nat}, id ∈ ids → Evo x st.h x (prune ns ids st.h) id := fun hid => .same (inids hid) rfl rfl
  have hst : SStep ns x st.h x (prune ns ids st.h) := {
    ext := Ext.refl x
    size := Nat.le_refl _
    evo := fun id hd hsm => ⟨.same (big hd) rfl rfl, by rw [big hd]; exact hsm⟩
    frame := fun _ _ _ => rfl
    sgrow := fun _ _ hS => .inl hS
    fresh := fun id ob hg hm => .inl ⟨id, ob, (sub hg).1, hm, rfl⟩
    frow := fun id ob hg hm => .inl ⟨id, ob, (sub hg).1, hm, fun h => h, rfl⟩
    os := rfl
    tape := rfl
    output := rfl }
  have hinv : Inv G x (prune ns ids st.h) := {
    obj := fun id o hg => (hs.inv.obj id o (sub hg).1).mono (Ext.refl x) rfl rfl rfl fun j hj => evoAll (h3 id o (mem hg) (sub hg).1 j hj)
    inj := fun i j oi oj gi gj => hs.inv.inj i j oi oj (sub gi).1 (sub gj).1
    own := fun id o hg => hs.inv.own id o (sub hg).1
    sh := hs.inv.sh
    live := fun id o hg j hj => by
      rw [inids (h3 id o (mem hg) (sub hg).1 j hj)]
      exact hs.inv.live id o (sub hg).1 j hj
    glob := hs.inv.glob }
  have hroot : ∀ id ∈ refsL t, id ∈ ids := fun id hid => h1 id (by simp [hid])
  refine ⟨⟨hinv, hs.b0, hs.size, fun i hi => (hs.vals i hi).mono (Ext.refl x) fun id hid => evoAll (hroot id (getD_mem hid)), fun id hid => ?_⟩, hst⟩
  rw [inids (hroot id hid)]
  exact hs.live id hid

theorem getO_age (h : Heap) (id : Nat) : getO (h.map (Option.map (Obj.age true))) id = (getO h id).map (Obj.age true) := by
  simp only [getO, List.getD_eq_getElem?_getD, List.getElem?_map]
  cases h[id]? with
  | none => rfl
  | some o => simp

theorem Obj.age_eq (o : Obj) : o.age true = o.tr (fun i => i) (fun _ => true) := by
  cases o <;> simp [Obj.age, Obj.tr, ageL_eq]

/-- Everything is taken for old. -/
theorem age_ok (hs : RelS G x st a) (ns : Nat) : RelS G x ⟨ageL true st.t, st.h.map (Option.map (Obj.age true))⟩ a ∧ SStep ns x st.h x (st.h.map (Option.map (Obj.age true))) := by
  have hSh : TrSh x x (fun _ => true) true := fun o b q _ hS => ⟨⟨hS.1, .inl rfl⟩, rfl⟩
  have hget : ∀ {id : Nat} {ob : Obj}, getO (st.h.map (Option.map (Obj.age true))) id = some ob → ∃ ob0, getO st.h id = some ob0 ∧ ob = ob0.tr (fun i => i) (fun _ => true) := fun {id ob} hg => by
    rw [getO_age, Option.map_eq_some_iff] at hg
    obtain ⟨ob0, h1, rfl⟩ := hg
    exact ⟨ob0, h1, Obj.age_eq ob0⟩
  have hlive : ∀ id, (getO st.h id).isSome → (getO (st.h.map (Option.map (Obj.age true))) id).isSome := fun id h => by
    rw [getO_age]
    simpa using h
  have hId : ∀ id, TrId x st.h x (st.h.map (Option.map (Obj.age true))) (fun i => i) id := fun id => by
    refine ⟨fun cs hg => ?_, fun e s o f l hg => ?_⟩
    · obtain ⟨ob0, h1, h2⟩ := hget hg
      cases ob0 <;> simp [Obj.tr] at h2
      exact ⟨⟨_, h1⟩, rfl⟩
    · obtain ⟨ob0, h1, h2⟩ := hget hg
      cases ob0 <;> simp [Obj.tr] at h2
      obtain ⟨rfl, rfl, rfl, rfl, rfl⟩ := h2
      exact ⟨_, _, h1, rfl, rfl⟩
  have hmut : ∀ ob0 : Obj, (ob0.tr (fun i => i) fun _ => true).mut → ob0.mut := fun ob0 h => by cases ob0 <;> exact h
  have hevo : ∀ id, Evo x st.h x (st.h.map (Option.map (Obj.age true))) id := fun id => by
    obtain ⟨h1, h2⟩ := hId id
    refine ⟨fun cs hg => h1 cs hg, fun e s o f l hg => ?_⟩
    obtain ⟨o', f', h3, _⟩ := h2 e s o f l hg
    exact ⟨o', f', l, h3, Nat.le_refl _, fun _ => ⟨rfl, rfl⟩⟩
  have hst : SStep ns x st.h x (st.h.map (Option.map (Obj.age true))) := {
    ext := Ext.refl x
    size := Nat.le_refl _
    evo := fun id _ hsm => ⟨hevo id, hlive id hsm⟩
    frame := fun _ _ _ => rfl
    sgrow := fun _ _ hS => .inl hS
    fresh := fun id ob hg hm => by
      obtain ⟨ob0, h1, rfl⟩ := hget hg
      exact .inl ⟨id, ob0, h1, hmut _ hm, rfl⟩
    frow := fun id ob hg hm => by
      obtain ⟨ob0, h1, rfl⟩ := hget hg
      exact .inl ⟨id, ob0, h1, by cases ob0 <;> exact hm, fun h => hmut _ h, rfl⟩
    os := rfl
    tape := rfl
    output := rfl }
  refine ⟨⟨⟨fun id ob hg => ?_, fun i j oi oj gi gj di dj hp => ?_, fun id ob hg hm q hS => ?_, hs.inv.sh, fun id ob hg j hj => ?_, hs.inv.glob⟩, hs.b0, ?_, fun i hlt => ?_, fun id hid => ?_⟩, hst⟩
  · obtain ⟨ob0, h1, rfl⟩ := hget hg
    exact (hs.inv.obj id ob0 h1).tr (r := fun i => i) hSh (fun _ => rfl) (fun j _ => hId j) rfl rfl rfl fun e s o0 f l _ hf => by simp at hf
  · obtain ⟨o1, h1, rfl⟩ := hget gi
    obtain ⟨o2, h2, rfl⟩ := hget gj
    exact hs.inv.inj i j o1 o2 h1 h2 (by rintro rfl; exact di rfl) (by rintro rfl; exact dj rfl) hp
  · obtain ⟨ob0, h1, rfl⟩ := hget hg
    exact hs.inv.own id ob0 h1 (hmut _ hm) q hS
  · obtain ⟨ob0, h1, rfl⟩ := hget hg
    rw [Obj.refs_tr, List.map_id'] at hj
    exact hlive j (hs.inv.live id ob0 h1 j hj)
  · rw [ageL_eq, trL_map]
    simpa using hs.size
  · have ht : (ageL true st.t).getD i .undef = (st.t.getD i .undef).tr (fun i => i) (fun _ => true) := by
      rw [ageL_eq, trL_map]
      simp only [List.getD_eq_getElem?_getD, List.getElem?_map]
      cases st.t[i]? <;> rfl
    simp only [ht]
    rw [ageL_eq, trL_map] at hlt
    exact (hs.vals i (by simpa using hlt)).tr hSh (fun _ => rfl) fun id _ => hId id
  · rw [refsL_age] at hid
    exact hlive id (hs.live id hid)

theorem clean_ok (hs : RelS G x st a) (ns : Nat) (ks : List Bool) : RelS G x (clean ns ks st) a ∧ SStep ns x st.h x (clean ns ks st).h := by
  obtain ⟨h1, h2⟩ := age_ok (keep_rel hs ks) ns
  unfold clean
  simp only
  split
  · rename_i hc
    obtain ⟨h3, h4⟩ := prune_ok (st := ⟨ageL true (keepT ks st.t), st.h.map (Option.map (Obj.age true))⟩) h1 hc
    exact ⟨h3, h2.trans h4⟩
  · exact ⟨h1, h2⟩

/-! ### Statements -/
def exM : Ex → Exit
  | .normal => .normal
  | .exit id => .exit id
  | .ret => .ret

theorem evIR_ok (hF : FnsOk P G F) (n ns : Nat) : ∀ (code : Code) (an ir : IR) {x : Cx} {st : St} {a : Act} {ex : Ex} {st' : St} {Q : Exit → Act → World → Prop}, trIR P code an = some ir → RelS G x st a → evIR G (fun s st => loopN n s st) F ns ir st = some (ex, st') →
    (∀ x' a', RelS G x' st' a' → SStep ns x st.h x' st'.h → a'.defers = a.defers → Q (exM ex) a' x'.w) → code.wp P Q a x.w := by
  intro code
  induction code with
  | skip =>
    intro an ir x st a ex st' Q htr hs he hQ
    cases an <;> simp only [trIR, Option.some.injEq] at htr <;> (subst htr; simp only [evIR, Option.some.injEq, Prod.mk.injEq] at he; obtain ⟨rfl, rfl⟩ := he; exact wp_skip (hQ x a hs (Step.refl _ _ _) rfl))
  | region id ops draw =>
    intro an ir x st a ex st' Q htr hs he hQ
    cases an <;> simp only [trIR] at htr <;> first
      | (simp at htr; done)
      | skip
    obtain ⟨qs, h1, rfl⟩ := Option.map_eq_some_iff.1 htr
    simp only [evIR] at he
    split at he
    · rename_i hp
      split at he
      · rename_i s1 h2
        simp only [Option.some.injEq, Prod.mk.injEq] at he
        obtain ⟨rfl, rfl⟩ := he
        exact region_ok hF h1 hs hp h2 fun x' a' hs' hst hd => hQ x' a' hs' (hst.weaken fun _ _ => trivial) hd
      · simp at he
    · simp at he
  | seq c d ihc ihd =>
    intro an ir x st a ex st' Q htr hs he hQ
    cases an <;> simp only [trIR] at htr <;> first
      | (simp at htr; done)
      | skip
    split at htr
    · rename_i x1 y1 h1 h2
      simp only [Option.some.injEq] at htr
      subst htr
      refine wp_seq ?_
      simp only [evIR] at he
      split at he
      · rename_i s1 h3
        exact ihc _ _ h1 hs h3 fun x' a' hs' hst hd => ihd _ _ h2 hs' he fun x2 a2 hs2 hst2 hd2 => hQ x2 a2 hs2 (hst.trans hst2) (hd2.trans hd)
      · rename_i r hne
        have he' := he
        refine ihc _ _ h1 hs he fun x' a' hs' hst hd => ?_
        have := hQ x' a' hs' hst hd
        cases ex with
        | normal => exact absurd he' (hne st')
        | exit id => exact this
        | ret => exact this
    · simp at htr
  | cond c d e ihd ihe =>
    intro an ir x st a ex st' Q htr hs he hQ
    cases an <;> simp only [trIR] at htr <;> first
      | (simp at htr; done)
      | skip
    split at htr
    · rename_i x1 y1 h1 h2
      simp only [Option.some.injEq] at htr
      subst htr
      have hv := hs.opd c
      simp only [evIR] at he
      split at he
      · rename_i hc
        rw [hc] at hv
        exact wp_cond_true hv.s_inv (ihd _ _ h1 hs he hQ)
      · rename_i hc
        rw [hc] at hv
        exact wp_cond_false hv.s_inv (ihe _ _ h2 hs he hQ)
      · simp at he
    · simp at htr
  | block id c ih =>
    intro an ir x st a ex st' Q htr hs he hQ
    cases an <;> simp only [trIR] at htr <;> first
      | (simp at htr; done)
      | skip
    rename_i id' ks y
    obtain ⟨y', h1, rfl⟩ := Option.map_eq_some_iff.1 htr
    refine wp_block ?_
    simp only [evIR] at he
    split at he
    · rename_i i s1 h2
      split at he
      · rename_i hi
        simp only [Option.some.injEq, Prod.mk.injEq] at he
        obtain ⟨rfl, rfl⟩ := he
        refine ih _ _ h1 hs h2 fun x' a' hs' hst hd => ?_
        simp only [exM, Exit.inBlock, if_pos hi]
        exact hQ x' a' hs' hst hd
      · rename_i hi
        simp only [Option.some.injEq, Prod.mk.injEq] at he
        obtain ⟨rfl, rfl⟩ := he
        refine ih _ _ h1 hs h2 fun x' a' hs' hst hd => ?_
        simp only [exM, Exit.inBlock, if_neg hi]
        exact hQ x' a' hs' hst hd
    · rename_i s1 h2
      simp only [Option.some.injEq, Prod.mk.injEq] at he
      obtain ⟨rfl, rfl⟩ := he
      refine ih _ _ h1 hs h2 fun x' a' hs' hst hd => ?_
      obtain ⟨hs2, hst2⟩ := clean_ok hs' ns ks
      exact hQ x' a' hs2 (hst.trans hst2) hd
    · rename_i r hn1 hn2
      refine ih _ _ h1 hs he fun x' a' hs' hst hd => ?_
      have := hQ x' a' hs' hst hd
      cases ex with
      | normal => exact absurd he (hn2 st')
      | exit i => exact absurd he (hn1 i st')
      | ret => exact this
  | loop c ih =>
    intro an ir x st a ex st' Q htr hs he hQ
    cases an <;> simp only [trIR] at htr <;> first
      | (simp at htr; done)
      | skip
    rename_i ks y
    obtain ⟨y', h1, rfl⟩ := Option.map_eq_some_iff.1 htr
    simp only [evIR] at he
    let x0 := x
    let h0 := st.h
    let d0 := a.defers
    obtain ⟨hs0, hst0⟩ := clean_ok hs ns ks
    refine wp_loop_ghost (fun k a' w' => ∃ x' s, x'.w = w' ∧ RelS G x' s a' ∧ SStep ns x0 h0 x' s.h ∧ a'.defers = d0 ∧ loopN k (fun st => loopEnd ns ks (evIR G (fun s st => loopN n s st) F ns y' st)) s = some (ex, st')) n
      ⟨x, _, rfl, hs0, hst0, rfl, he⟩ ?_
    rintro k a' w' ⟨x', s, rfl, hs', hst, hd, hl⟩
    cases k with
    | zero => simp [loopN] at hl
    | succ k =>
      simp only [loopN] at hl
      split at hl
      · rename_i s1 h2
        unfold loopEnd at h2
        split at h2
        · rename_i s2 h3
          simp only [Option.some.injEq, Prod.mk.injEq, true_and] at h2
          refine ih _ _ h1 hs' h3 fun x2 a2 hs3 hst3 hd3 => ?_
          obtain ⟨hs4, hst4⟩ := clean_ok hs3 ns ks
          subst h2
          exact ⟨k, Nat.lt_succ_self k, x2, _, rfl, hs4, (hst.trans hst3).trans hst4, hd3.trans hd, hl⟩
        · rename_i hn
          exact absurd h2 (hn s1)
      · rename_i hn
        unfold loopEnd at hl hn
        split at hl
        · rename_i s2 h3
          rw [h3] at hn
          exact absurd rfl (hn _)
        · refine ih _ _ h1 hs' hl fun x2 a2 hs3 hst3 hd3 => ?_
          have := hQ x2 a2 hs3 (hst.trans hst3) (hd3.trans hd)
          cases ex with
          | normal => rename_i hnn; exact absurd hl (hnn st')
          | exit i => exact this
          | ret => exact this
  | exit id =>
    intro an ir x st a ex st' Q htr hs he hQ
    cases an <;> simp only [trIR, Option.some.injEq] at htr <;> first
      | (simp at htr; done)
      | skip
    rename_i id' ks
    subst htr
    simp only [evIR, Option.some.injEq, Prod.mk.injEq] at he
    obtain ⟨rfl, rfl⟩ := he
    obtain ⟨hs2, hst2⟩ := clean_ok hs ns ks
    exact wp_exit (hQ x a hs2 hst2 rfl)
  | ret =>
    intro an ir x st a ex st' Q htr hs he hQ
    cases an <;> simp only [trIR, Option.some.injEq] at htr <;> first
      | (simp at htr; done)
      | skip
    rename_i ks
    subst htr
    simp only [evIR, Option.some.injEq, Prod.mk.injEq] at he
    obtain ⟨rfl, rfl⟩ := he
    obtain ⟨hs2, hst2⟩ := clean_ok hs ns ks
    exact wp_ret (hQ x a hs2 hst2 rfl)
  | _ =>
    intro an ir x st a ex st' Q htr hs he hQ
    cases an <;> simp [trIR] at htr

/-! ### Results -/
def rv1 (tmps : Array Value) : ResultVar → Sem Value
  | .tmp t => pure (tmps.getD t undef)
  | .cell b t => do loadVar t (← asAddr (tmps.getD b undef))

theorem resOf_ok (hs : RelS G x st a) : ∀ (rv : List ResultVar) (rr : List Res) {rs : List AV}, trRes P rv = some rr → resOf st rr = some rs →
    ∃ us : List Value, (rv.mapM (rv1 a.tmps)).run P x.w = Result.ok us x.w ∧ rs.length = us.length ∧
      (∀ (i : Nat) (b : AV) (v : Value), rs[i]? = some b → us[i]? = some v → RelV x st.h b v) ∧ Live st.h rs
  | [], rr, rs, h1, h2 => by
    simp only [trRes, Option.some.injEq] at h1
    subst h1
    simp only [resOf, Option.some.injEq] at h2
    subst h2
    exact ⟨[], by simp [List.mapM_nil], rfl, fun i b v h _ => by simp at h, fun id hid => by simp [refsL] at hid⟩
  | .tmp t :: rv, rr, rs, h1, h2 => by
    simp only [trRes] at h1
    obtain ⟨r', h3, rfl⟩ := Option.map_eq_some_iff.1 h1
    simp only [resOf] at h2
    split at h2
    · rename_i l h4
      simp only [Option.some.injEq] at h2
      subst h2
      obtain ⟨us, k1, k2, k3, k4⟩ := resOf_ok hs rv r' h3 h4
      refine ⟨a.tmps.getD t undef :: us, by simp [List.mapM_cons, k1, rv1], by simp [k2], fun i b v e1 e2 => ?_, fun id hid => ?_⟩
      · cases i with
        | zero =>
          simp at e1 e2
          subst e1 e2
          simpa [List.getD_eq_getElem?_getD, Array.getD_eq_getD_getElem?] using hs.val t
        | succ i => exact k3 i b v (by simpa using e1) (by simpa using e2)
      · simp only [refsL, List.mem_append] at hid
        exact hid.elim (fun h => hs.live id (getD_mem h)) (k4 id)
    · simp at h2
  | .cell t ty :: rv, rr, rs, h1, h2 => by
    simp only [trRes] at h1
    split at h1
    · rename_i ag sz r' h5 h6 h3
      simp only [Option.some.injEq] at h1
      subst h1
      simp only [resOf] at h2
      split at h2
      · rename_i v l h7 h4
        simp only [Option.some.injEq] at h2
        subst h2
        obtain ⟨us, k1, k2, k3, k4⟩ := resOf_ok hs rv r' h3 h4
        have h7' : evR G st.t st.h (.load ag sz (trO (.tmp t))) = some v := h7
        obtain ⟨p, u, hp, hu, hr, hl⟩ := load_val (P := P) (tagg_ok h5) h6 hs h7'
        have hp' : a.tmps.getD t undef = .pointer (some p) := hp
        refine ⟨u :: us, by simp [List.mapM_cons, k1, rv1, hp', asAddr, hu], by simp [k2], fun i b v' e1 e2 => ?_, fun id hid => ?_⟩
        · cases i with
          | zero =>
            simp at e1 e2
            subst e1 e2
            exact hr
          | succ i => exact k3 i b v' (by simpa using e1) (by simpa using e2)
        · simp only [refsL, List.mem_append] at hid
          exact hid.elim (hl id) (k4 id)
      · simp at h2
    · simp at h1

theorem results_ok (hs : RelS G x st a) {fn : Func} {rr : List Res} {rs : List AV} (h1 : trRes P fn.results.toList = some rr) (h2 : resOf st rr = some rs) :
    ∃ us : List Value, (results fn a.tmps).run P x.w = .ok (mkRes us) x.w ∧ rs.length = us.length ∧ (∀ (i : Nat) (b : AV) (v : Value), rs[i]? = some b → us[i]? = some v → RelV x st.h b v) ∧ Live st.h rs := by
  obtain ⟨us, k1, k2, k3, k4⟩ := resOf_ok hs _ _ h1 h2
  refine ⟨us, ?_, k2, k3, k4⟩
  have hu : results fn a.tmps = (do let vs ← fn.results.mapM (rv1 a.tmps); pure (if h : vs.size = 1 then vs[0] else .tuple vs)) := rfl
  rw [hu, Array.mapM_eq_mapM_toList]
  simp only [Sem.run_bind, k1, Result.andThen_ok, map_eq_pure_bind, bind_assoc, pure_bind]
  match us with
  | [] => simp [mkRes]
  | [u] => simp [mkRes]
  | u :: u2 :: us => simp [mkRes]

end
end Go.Ev
