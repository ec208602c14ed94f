/-
  Functions: their contracts, by the evaluator.
-/
import Derived.Test.YtebiajdkgpcidaaEvIR
set_option linter.unusedSimpArgs false
set_option linter.unusedVariables false
namespace Go.Ev

section
variable {P : Program} {G : Cf} {F : FnEv}

theorem frzRes_ok : ∀ {l : List AV} {k : List Bool} {l' : List AV} {vs : List Value} {x : Cx} {h h' : Heap}, Inv G x h → l.length = vs.length → (∀ (i : Nat) (a : AV) (v : Value), l[i]? = some a → vs[i]? = some v → RelV x h a v) → Live h l → frzRes k l h = some (l', h') →
    ∃ x', Frz G x h x' h' ∧ l'.length = vs.length ∧ (∀ (i : Nat) (a : AV) (v : Value), l'[i]? = some a → vs[i]? = some v → RelV x' h' a v) ∧ ∀ id ∈ refsL l', id ∈ refsL l
  | [], k, l', vs, x, h, h', hi, hl, _, _, he => by
    simp only [frzRes, Option.some.injEq, Prod.mk.injEq] at he
    obtain ⟨rfl, rfl⟩ := he
    exact ⟨x, ⟨rfl, hi, Step.refl _ _ _⟩, hl, fun i a v h1 _ => by simp at h1, fun id h => h⟩
  | b :: l, k, l', vs, x, h, h', hi, hl, hr, hlv, he => by
    cases vs with
    | nil => simp at hl
    | cons v vs =>
      simp only [frzRes] at he
      split at he
      · rename_i b' h1 hb
        split at he
        · rename_i r h2 hr2
          injection he with he
          injection he with e1 e2
          subst e1 e2
          have key : ∃ x1, Frz G x h x1 h1 ∧ RelV x1 h1 b' v ∧ ∀ id ∈ b'.refs, id ∈ b.refs := by
            split at hb
            · simp only [Option.some.injEq, Prod.mk.injEq] at hb
              obtain ⟨rfl, rfl⟩ := hb
              exact ⟨x, ⟨rfl, hi, Step.refl _ _ _⟩, hr 0 b v rfl rfl, fun id h => h⟩
            · unfold frzC at hb
              split at hb
              · rename_i b0 h0 hb0
                simp only [Option.some.injEq, Prod.mk.injEq] at hb
                obtain ⟨rfl, rfl⟩ := hb
                obtain ⟨x1, f1, r1, s1⟩ := frz_ok hi (hr 0 b v rfl rfl) (fun id hid => hlv id (by simp only [refsL, List.mem_append]; exact .inl hid)) hb0
                exact ⟨x1, f1, r1.canon, by rw [refs_canon]; exact s1⟩
              · simp at hb
          obtain ⟨x1, f1, r1, s1⟩ := key
          have hlive1 : Live h l := fun id hid => hlv id (by simp only [refsL, List.mem_append]; exact .inr hid)
          obtain ⟨x2, f2, l2, r2, s2⟩ := frzRes_ok (vs := vs) f1.inv (by simpa using hl) (fun i a v h3 h4 => (hr (i + 1) a v (by simpa using h3) (by simpa using h4)).step f1.step fun id hid => ⟨trivial, hlive1 id (mem_refsL h3 hid)⟩) (fun id hid => (f1.step.evo id trivial (hlive1 id hid)).2) hr2
          refine ⟨x2, f1.trans f2, by simp [l2], fun i a w h3 h4 => ?_, fun id hid => ?_⟩
          · cases i with
            | zero =>
              simp only [List.getElem?_cons_zero, Option.some.injEq] at h3 h4
              subst h3 h4
              exact r1.step f2.step fun id hid => ⟨trivial, (f1.step.evo id trivial (hlv id (by simp only [refsL, List.mem_append]; exact .inl (s1 id hid)))).2⟩
            | succ i => exact r2 i a w (by simpa using h3) (by simpa using h4)
          · simp only [refsL, List.mem_append] at hid ⊢
            exact hid.imp (s1 id) (s2 id)
        · simp at he
      · simp at he

/-- Where the call's own slots begin behind 'ns' others. -/
def Cx.up (x : Cx) (ns : Nat) : Cx := { x with φ := fun s => x.φ (s - ns), κ := fun s => x.κ (s - ns) }

theorem start_get (fn : Fn) (args : List AV) (ins : List Obj) (id : Nat) : getO (start fn args ins).h id = if id < fn.ns then none else (ins[id - fn.ns]?).map (Obj.tr (· + fn.ns) fun o => o) := by
  simp only [start, getO, List.getD_eq_getElem?_getD, List.getElem?_append, List.length_replicate]
  split
  · rename_i h
    simp [h]
  · rename_i h
    simp only [List.getElem?_map]
    cases ins[id - fn.ns]? <;> simp [Obj.ren_tr]

theorem start_at (fn : Fn) (args : List AV) (ins : List Obj) (id : Nat) : getO (start fn args ins).h (id + fn.ns) = (ins[id]?).map (Obj.tr (· + fn.ns) fun o => o) := by
  rw [start_get, if_neg (by omega)]
  simp

theorem start_ok {x : Cx} {fn : Fn} {args : List AV} {ins : List Obj} {vals : List Value} {nt : Nat} (hnt : nt = fn.nt) (hB : x.B0 = x.w.heap.size) (hi : Inv G x (ins.map some)) (hal : args.length = vals.length)
    (har : ∀ (i : Nat) (a : AV) (v : Value), args[i]? = some a → vals[i]? = some v → RelV x (ins.map some) a v) (hlv : Live (ins.map some) args) :
    RelS G (x.up fn.ns) (start fn args ins) { tmps := vals.toArray ++ Array.replicate (nt - vals.toArray.size) undef, defers := [] } := by
  have hSh : TrSh x (x.up fn.ns) (fun o => o) true := fun o b q _ hS => ⟨hS, rfl⟩
  have hId : ∀ id, TrId x (ins.map some) (x.up fn.ns) (start fn args ins).h (· + fn.ns) id := fun id => by
    refine ⟨fun cs hg => ?_, fun e s o f l hg => ?_⟩
    · rw [start_at, Option.map_eq_some_iff] at hg
      obtain ⟨ob, h1, h2⟩ := hg
      cases ob <;> simp [Obj.tr] at h2
      exact ⟨⟨_, by rw [getO_map]; exact h1⟩, by simp [Cx.up]⟩
    · rw [start_at, Option.map_eq_some_iff] at hg
      obtain ⟨ob, h1, h2⟩ := hg
      cases ob <;> simp [Obj.tr] at h2
      obtain ⟨rfl, rfl, rfl, rfl, rfl⟩ := h2
      exact ⟨_, _, by rw [getO_map]; exact h1, by simp [Cx.up], by simp [Cx.up]⟩
  have hget : ∀ {id : Nat} {ob : Obj}, getO (start fn args ins).h id = some ob → fn.ns ≤ id ∧ ∃ ob0, getO (ins.map some) (id - fn.ns) = some ob0 ∧ ob = ob0.tr (· + fn.ns) fun o => o := fun {id ob} hg => by
    rw [start_get] at hg
    split at hg
    · simp at hg
    · obtain ⟨ob0, h1, rfl⟩ := Option.map_eq_some_iff.1 hg
      exact ⟨by omega, ob0, by rw [getO_map]; exact h1, rfl⟩
  have hlive : ∀ id, (getO (ins.map some) id).isSome → (getO (start fn args ins).h (id + fn.ns)).isSome := fun id h => by
    rw [start_at]
    rw [getO_map] at h
    simpa using h
  have hmut : ∀ ob0 : Obj, (ob0.tr (· + fn.ns) fun o => o).mut → ob0.mut := fun ob0 h => by cases ob0 <;> exact h
  refine ⟨⟨fun id ob hg => ?_, fun i j oi oj gi gj di dj hp => ?_, fun id ob hg hm q hS => ?_, hi.sh, fun id ob hg j hj => ?_, hi.glob⟩, by simp [Cx.up, hB], ?_, fun i hlt => ?_, fun id hid => ?_⟩
  · obtain ⟨h1, ob0, h2, rfl⟩ := hget hg
    have := (hi.obj _ ob0 h2).tr (r := (· + fn.ns)) hSh (fun _ => rfl) (fun j _ => hId j) rfl (by simp [Cx.up]) (by simp [Cx.up]) fun e s o0 f l hrow hf => by
      subst hrow
      obtain ⟨_, _, _, _, _, _, _, _, _, _, h10⟩ := hi.obj _ _ h2
      exact h10 hf
    have he : id - fn.ns + fn.ns = id := by omega
    rwa [he] at this
  · obtain ⟨h1, o1, h2, rfl⟩ := hget gi
    obtain ⟨h3, o2, h4, rfl⟩ := hget gj
    have := hi.inj _ _ o1 o2 h2 h4 (by rintro rfl; exact di rfl) (by rintro rfl; exact dj rfl) hp
    omega
  · obtain ⟨h1, ob0, h2, rfl⟩ := hget hg
    exact hi.own _ ob0 h2 (hmut _ hm) q hS
  · obtain ⟨h1, ob0, h2, rfl⟩ := hget hg
    rw [Obj.refs_tr, List.mem_map] at hj
    obtain ⟨j0, hj0, rfl⟩ := hj
    exact hlive j0 (hi.live _ ob0 h2 j0 hj0)
  · simp [start, renL_tr, trL_map, hal, hnt]
  · have ht : (start fn args ins).t = args.map (AV.tr (· + fn.ns) fun o => o) ++ List.replicate (fn.nt - args.length) (.s undef) := by simp only [start, renL_tr, trL_map]
    rw [ht] at hlt ⊢
    simp only [List.length_append, List.length_replicate, List.length_map] at hlt
    simp only [List.getD_eq_getElem?_getD, List.getElem?_append, List.length_map, Array.getD_eq_getD_getElem?, Array.getElem?_append, List.size_toArray]
    by_cases c : i < args.length
    · rw [if_pos c, if_pos (by omega)]
      have h1 : args[i]? = some args[i] := List.getElem?_eq_getElem c
      have h2 : vals[i]? = some (vals[i]'(by omega)) := List.getElem?_eq_getElem (by omega)
      have := (har i _ _ h1 h2).tr hSh (fun _ => rfl) (fun id _ => hId id)
      simpa [h1, h2] using this
    · rw [if_neg c, if_neg (by omega)]
      have h1 : i - args.length < fn.nt - args.length := by omega
      have h2 : i - vals.length < nt - vals.length := by omega
      simp [h1, h2]
      exact .s _
  · simp only [start, renL_tr] at hid
    obtain ⟨i, b, h1, h2⟩ := mem_refsL_iff.1 hid
    rw [List.getElem?_append] at h1
    split at h1
    · have : id ∈ refsL (trL (· + fn.ns) (fun o => o) args) := mem_refsL h1 h2
      rw [refsL_tr, List.mem_map] at this
      obtain ⟨j0, hj0, rfl⟩ := this
      exact hlive j0 (hlv j0 hj0)
    · have := List.mem_of_getElem? h1
      simp only [List.mem_replicate] at this
      rw [this.2] at h2
      simp [AV.refs] at h2

theorem finish_ok {x x1 : Cx} {fn : Fn} {args : List AV} {ins : List Obj} {st : St} {a : Act} {rs : List AV} {outs : List Obj} {func : Func} (hs : RelS G x1 st a) (hst : SStep fn.ns (x.up fn.ns) (start fn args ins).h x1 st.h)
    (htr : trRes P func.results.toList = some fn.res) (he : finish fn ins.length st = some (rs, outs)) :
    ∃ us, (results func a.tmps).run P x1.w = .ok (mkRes us) x1.w ∧ ∃ x', x'.w = x1.w ∧ Post G x ins rs outs x' us := by
  unfold finish at he
  split at he
  · rename_i rs0 hres
    obtain ⟨us, hrun, hlen0, hrel0, hlive0⟩ := results_ok (P := P) hs htr hres
    refine ⟨us, hrun, ?_⟩
    split at he
    · rename_i rs1 h2 hfr
      obtain ⟨x2, f2, hlen1, hrel1, hsub1⟩ := frzRes_ok hs.inv hlen0 hrel0 hlive0 hfr
      have hlive1 : Live h2 rs1 := fun id hid => (f2.step.evo id trivial (hlive0 id (hsub1 id hid))).2
      have hst2 : SStep fn.ns (x.up fn.ns) (start fn args ins).h x2 h2 := hst.trans (f2.step.weaken fun _ _ => trivial)
      simp only at he
      generalize hrs2 : ageL true rs1 = rs2 at he
      have hrel2 : ∀ (i : Nat) (b : AV) (v : Value), rs2[i]? = some b → us[i]? = some v → RelV x2 h2 b v := by
        rw [← hrs2]
        exact RelV.ageL hrel1
      have hrefs2 : refsL rs2 = refsL rs1 := by
        rw [← hrs2]
        exact refsL_age rs1
      have hlen2 : rs2.length = us.length := by
        rw [← hrs2, ageL_eq, trL_map]
        simpa using hlen1
      generalize hids : reach h2 (refsL rs2 ++ List.range' fn.ns ins.length) = ids at he
      have hndI : ids.Nodup := by rw [← hids]; exact reachN_nodup _ _ _ _ List.nodup_nil
      generalize hnm : List.range' fn.ns ins.length ++ ids.filter (· < fn.ns) = names at he
      split at he
      · rename_i hcl
        obtain ⟨hroots, hliveI, hrefsI⟩ := closed_spec hcl
        split at he
        · rename_i os hos
          simp only [Option.some.injEq, Prod.mk.injEq] at he
          obtain ⟨e1, e2⟩ := he
          obtain ⟨hosl, hosg⟩ := getAll_spec hos
          generalize hr : (fun i => names.idxOf i) = r at e1 e2
          have hrr : ∀ i, r i = names.idxOf i := fun i => by rw [← hr]
          have hnd : names.Nodup := by
            rw [← hnm]
            refine List.nodup_append.2 ⟨List.nodup_range', hndI.filter _, fun i hi j hj hij => ?_⟩
            have h3 := (List.mem_range'_1.1 hi).1
            have h4 := (List.mem_filter.1 hj).2
            simp at h4
            omega
          have hfirst : ∀ id, id < ins.length → names[id]? = some (fn.ns + id) := fun id hlt => by
            rw [← hnm, List.getElem?_append_left (by simpa using hlt)]
            simp [hlt]
          -- down
          let x3 : Cx := { x2 with φ := fun j => x2.φ (names.getD j 0), κ := fun j => x2.κ (names.getD j 0) }
          have houts : outs = os.map (Obj.tr r fun _ => true) := by
            rw [← e2]
            congr 1
            funext o
            rw [Obj.ren_tr, Obj.age_tr]
          have hgc : ∀ j ob, getO (outs.map some) j = some ob → ∃ id ob0, names[j]? = some id ∧ names.getD j 0 = id ∧ getO h2 id = some ob0 ∧ ob = ob0.tr r (fun _ => true) := fun j ob hj => by
            rw [getO_map, houts, List.getElem?_map, Option.map_eq_some_iff] at hj
            obtain ⟨ob0, h1, rfl⟩ := hj
            have hjl : j < names.length := by rw [← hosl]; exact (List.getElem?_eq_some_iff.1 h1).1
            obtain ⟨o2, h3, h4⟩ := hosg j _ (List.getElem?_eq_getElem hjl)
            rw [h1] at h4
            injection h4 with h4
            subst h4
            exact ⟨names[j], ob0, List.getElem?_eq_getElem hjl, by simp [List.getD, hjl], h3, rfl⟩
          have hgc2 : ∀ id ob0, id ∈ names → getO h2 id = some ob0 → getO (outs.map some) (r id) = some (ob0.tr r (fun _ => true)) := fun id ob0 hid hg => by
            obtain ⟨o2, h3, h4⟩ := hosg _ _ (idx_get hid).1
            rw [hg] at h3
            injection h3 with h3
            subst h3
            rw [getO_map, houts, List.getElem?_map, hrr, h4]
            rfl
          have hφc : ∀ id ∈ names, x3.φ (r id) = x2.φ id ∧ x3.κ (r id) = x2.κ id := fun id hid => by
            have := (idx_get hid).2
            simp only [x3, hrr, this, and_self]
          have hTrId : ∀ id ∈ names, TrId x2 h2 x3 (outs.map some) r id := fun id hid => by
            refine ⟨fun cs' hc => ?_, fun e s o f l hc => ?_⟩
            · obtain ⟨i2, ob0, h1, _, h3, h4⟩ := hgc _ _ hc
              have : i2 = id := by
                have := (idx_get hid).1
                rw [← hrr, h1] at this
                injection this
              subst this
              cases ob0 <;> simp [Obj.tr] at h4
              exact ⟨⟨_, h3⟩, (hφc _ hid).1⟩
            · obtain ⟨i2, ob0, h1, _, h3, h4⟩ := hgc _ _ hc
              have : i2 = id := by
                have := (idx_get hid).1
                rw [← hrr, h1] at this
                injection this
              subst this
              cases ob0 <;> simp [Obj.tr] at h4
              obtain ⟨rfl, rfl, _, rfl, rfl⟩ := h4
              exact ⟨_, _, h3, (hφc _ hid).1, (hφc _ hid).2⟩
          have hTrSh : TrSh x2 x3 (fun _ => true) true := fun o k q _ hS => ⟨⟨hS.1, .inl rfl⟩, rfl⟩
          have hTrSh0 : TrSh x2 x3 (fun o => o) true := fun o k q _ hS => ⟨hS, rfl⟩
          have hi2 := f2.inv
          have hmutr : ∀ ob0 : Obj, (ob0.tr r fun _ => true).mut ↔ ob0.mut := fun ob0 => by cases ob0 <;> simp [Obj.mut, Obj.tr]
          have hrowr : ∀ ob0 : Obj, (ob0.tr r fun _ => true).isRow ↔ ob0.isRow := fun ob0 => by cases ob0 <;> simp [Obj.isRow, Obj.tr]
          have hlive2 : ∀ id ∈ names, (getO (outs.map some) (r id)).isSome := fun id hid => by
            obtain ⟨ob1, hob1⟩ := Option.isSome_iff_exists.1 (hliveI id hid)
            rw [hgc2 id ob1 hid hob1]
            rfl
          have hinv : Inv G x3 (outs.map some) := {
            obj := fun j ob hj => by
              obtain ⟨id, ob0, h1, h3, h4, rfl⟩ := hgc j ob hj
              have hid : id ∈ names := List.mem_of_getElem? h1
              have hrj : r id = j := by rw [hrr]; exact nodup_idx hnd h1
              rw [← hrj]
              refine (hi2.obj id ob0 h4).tr hTrSh (fun _ => rfl) (fun q hq => hTrId q (hrefsI id ob0 hid h4 q hq)) rfl (hφc id hid).1 (hφc id hid).2 fun e s o0 f l hrow hf => by simp at hf
            inj := fun i j oi oj gi gj di dj hpp => by
              obtain ⟨id1, o1, h1, h3, h4, rfl⟩ := hgc i oi gi
              obtain ⟨id2, o2, k1, k3, k4, rfl⟩ := hgc j oj gj
              simp only [x3, h3, k3] at hpp
              have := hi2.inj id1 id2 o1 o2 h4 k4 (by rintro rfl; exact di rfl) (by rintro rfl; exact dj rfl) hpp
              subst this
              have e3 := nodup_idx hnd h1
              have e4 := nodup_idx hnd k1
              omega
            own := fun j ob hj hm q hS => by
              obtain ⟨id, ob0, h1, h3, h4, rfl⟩ := hgc j ob hj
              simp only [x3, h3] at hS
              exact hi2.own id ob0 h4 ((hmutr ob0).1 hm) q hS
            sh := hi2.sh
            live := fun j ob hj q hq => by
              obtain ⟨id, ob0, h1, h3, h4, rfl⟩ := hgc j ob hj
              rw [Obj.refs_tr, List.mem_map] at hq
              obtain ⟨q0, hq0, rfl⟩ := hq
              exact hlive2 q0 (hrefsI id ob0 (List.mem_of_getElem? h1) h4 q0 hq0)
            glob := hi2.glob }
          -- the objects that came in
          have hin : ∀ {id : Nat} {ob : Obj}, getO (start fn args ins).h id = some ob → ∃ ob0, getO (ins.map some) (id - fn.ns) = some ob0 ∧ (ob.mut ↔ ob0.mut) ∧ (ob.isRow ↔ ob0.isRow) := fun {id ob} hg => by
            rw [start_get] at hg
            split at hg
            · simp at hg
            · obtain ⟨ob0, h1, rfl⟩ := Option.map_eq_some_iff.1 hg
              exact ⟨ob0, by rw [getO_map]; exact h1, by cases ob0 <;> simp [Obj.mut, Obj.tr], by cases ob0 <;> simp [Obj.isRow, Obj.tr]⟩
          have hstep : Step (fun _ => True) x (ins.map some) x3 (outs.map some) := {
            ext := ⟨hst2.ext.b0, hst2.ext.cells⟩
            size := hst2.size
            evo := fun id _ hsm => by
              have hlt : id < ins.length := by simpa using getO_lt hsm
              have hnid := hfirst id hlt
              have hmem : fn.ns + id ∈ names := List.mem_of_getElem? hnid
              have hri : r (fn.ns + id) = id := by rw [hrr]; exact nodup_idx hnd hnid
              have hs0 : (getO (start fn args ins).h (fn.ns + id)).isSome := by
                rw [Nat.add_comm, start_at]
                simpa [getO_map] using hsm
              obtain ⟨ev, hsm2⟩ := hst2.evo (fn.ns + id) (by omega) hs0
              obtain ⟨t1, t2⟩ := hTrId _ hmem
              rw [hri] at t1 t2
              have hup : (x.up fn.ns).φ (fn.ns + id) = x.φ id ∧ (x.up fn.ns).κ (fn.ns + id) = x.κ id := by simp [Cx.up]
              have hat : getO (start fn args ins).h (fn.ns + id) = (ins[id]?).map (Obj.tr (· + fn.ns) fun o => o) := by rw [Nat.add_comm, start_at]
              refine ⟨⟨fun cs' hc => ?_, fun e s o f l' hc => ?_⟩, by have := hlive2 _ hmem; rwa [hri] at this⟩
              · obtain ⟨⟨cs, h3⟩, h4⟩ := t1 cs' hc
                obtain ⟨⟨cs0, h5⟩, h6⟩ := ev.1 cs h3
                rw [hat, Option.map_eq_some_iff] at h5
                obtain ⟨ob0, h7, h8⟩ := h5
                cases ob0 <;> simp [Obj.tr] at h8
                exact ⟨⟨_, by rw [getO_map]; exact h7⟩, (h4.trans h6).trans hup.1⟩
              · obtain ⟨o1, f1, h3, h4, h5⟩ := t2 e s o f l' hc
                obtain ⟨o2, f3, l, h6, h7, h8⟩ := ev.2 e s o1 f1 l' h3
                rw [hat, Option.map_eq_some_iff] at h6
                obtain ⟨ob0, h9, h10⟩ := h6
                cases ob0 <;> simp [Obj.tr] at h10
                obtain ⟨rfl, rfl, rfl, rfl, rfl⟩ := h10
                exact ⟨_, _, _, by rw [getO_map]; exact h9, h7, fun hh => ⟨(h4.trans (h8 hh).1).trans hup.1, (h5.trans (h8 hh).2).trans hup.2⟩⟩
            frame := fun b hb hm => hst2.frame b hb fun id ob hg hmut hp => by
              obtain ⟨ob0, h1, h3, _⟩ := hin hg
              exact hm _ ob0 h1 (h3.1 hmut) hp
            sgrow := fun b q hS => by
              rcases hst2.sgrow b q hS with h1 | ⟨id, ob, hg, hrow, hmut, hp⟩ | h1
              · exact .inl h1
              · obtain ⟨ob0, h3, h4, h5⟩ := hin hg
                exact .inr (.inl ⟨_, ob0, h3, h5.1 hrow, h4.1 hmut, hp⟩)
              · exact .inr (.inr h1)
            fresh := fun j ob hj hm => by
              obtain ⟨id, ob0, h1, h3, h4, rfl⟩ := hgc j ob hj
              have hx : x3.φ j = x2.φ id := by simp only [x3, h3]
              rw [hx]
              rcases hst2.fresh id ob0 h4 ((hmutr ob0).1 hm) with ⟨i0, o0, g0, m0, p0⟩ | h5
              · obtain ⟨ob1, k1, k2, _⟩ := hin g0
                exact .inl ⟨_, ob1, k1, k2.1 m0, p0⟩
              · exact .inr h5
            frow := fun j ob hj hm => by
              obtain ⟨id, ob0, h1, h3, h4, rfl⟩ := hgc j ob hj
              have hx : x3.φ j = x2.φ id := by simp only [x3, h3]
              rw [hx]
              rcases hst2.frow id ob0 h4 ((hrowr ob0).1 hm) with ⟨i0, o0, g0, r0, m0, p0⟩ | h5
              · obtain ⟨ob1, k1, k2, k3⟩ := hin g0
                exact .inl ⟨_, ob1, k1, k3.1 r0, fun hmm => k2.1 (m0 ((hmutr ob0).1 hmm)), p0⟩
              · exact .inr h5
            os := hst2.os
            tape := hst2.tape
            output := hst2.output }
          have hroot : ∀ id ∈ refsL rs2, id ∈ names := fun id hid => hroots id (by simp only [List.mem_append]; exact .inl hid)
          refine ⟨x3, f2.w, hinv, hstep, by rw [← e1, renL_tr, trL_map]; simpa using hlen2, fun i b v h1 h3 => ?_, fun id hid => ?_⟩
          · rw [← e1, renL_tr, trL_map, List.getElem?_map, Option.map_eq_some_iff] at h1
            obtain ⟨b0, h4, rfl⟩ := h1
            exact (hrel2 i b0 v h4 h3).tr hTrSh0 (fun _ => rfl) fun id hid => hTrId id (hroot id (mem_refsL h4 hid))
          · rw [← e1, renL_tr, refsL_tr, List.mem_map] at hid
            obtain ⟨j0, hj0, rfl⟩ := hid
            exact hlive2 j0 (hroot j0 hj0)
        · simp at he
      · simp at he
    · simp at he
  · simp at he

/-! ### All functions -/
/-- The table's functions are the program's. -/
def TabOk (P : Program) (tab : Nat → Option Fn) : Prop := ∀ f fn, tab f = some fn → ∃ func an, P.funcs[real f]? = some func ∧ trFn P func an = some fn

theorem trFn_inv {f : Func} {an fn : Fn} (h : trFn P f an = some fn) : ∃ c, f.body = some c ∧ trIR P c an.body = some fn.body ∧ trRes P f.results.toList = some fn.res ∧ (f.name == "runtime.NumGoroutine") = false ∧ f.ntmps = fn.nt := by
  unfold trFn at h
  split at h
  · rename_i c hc
    split at h
    · rename_i b r h1 h2
      split at h
      · simp at h
      · rename_i hn
        simp only [Option.some.injEq] at h
        subst h
        exact ⟨c, hc, h1, h2, by simpa using hn, rfl⟩
    · simp at h
  · simp at h

theorem RelV.sl_nil {x : Cx} {h : Heap} {o : Bool} {v : Value} (hr : RelV x h (.sl o []) v) : RelV x h .nilsl v ∨ RelV x h .esl v := by
  cases hr with
  | sl old l v hr =>
    cases hr with
    | nil base cap h0 =>
      cases base with
      | none => rw [h0 rfl]; exact .inl .nilsl
      | some a => exact .inr (.esl a cap)
    | sl l sz b o cap vals hne => exact absurd rfl hne

theorem eqE_ok : ∀ {l m : List (List C)}, eqE l m = true → l = m
  | [], [], _ => rfl
  | [], _ :: _, h => by simp [eqE] at h
  | a :: l, [], h => by
    unfold eqE at h
    split at h <;> simp_all
  | a :: l, b :: m, h => by
    unfold eqE at h
    split at h
    · simp_all
    · rename_i e1 e2
      simp only [List.cons.injEq] at e1 e2
      obtain ⟨rfl, rfl⟩ := e1
      obtain ⟨rfl, rfl⟩ := e2
      simp only [Bool.and_eq_true, decide_eq_true_eq] at h
      rw [h.1, eqE_ok h.2]
    · simp at h
theorem eqA1_ok {a b : AV} (h : eqA1 a b = true) : a = b := by
  unfold eqA1 at h
  split at h
  · rw [eqE_ok h]
  · rw [of_decide_eq_true h]
  · simp at h
theorem eqA1s_ok : ∀ {l m : List AV}, eqA1s l m = true → l = m
  | [], [], _ => rfl
  | [], _ :: _, h => by simp [eqA1s] at h
  | a :: l, [], h => by simp [eqA1s] at h
  | a :: l, b :: m, h => by
    simp only [eqA1s, Bool.and_eq_true] at h
    rw [eqA1_ok h.1, eqA1s_ok h.2]
theorem eqA_ok {a b : AV} (h : eqA a b = true) : a = b := by
  unfold eqA at h
  split at h
  · rw [eqA1s_ok h]
  · exact eqA1_ok h
theorem eqAs_ok : ∀ {l m : List AV}, eqAs l m = true → l = m
  | [], [], _ => rfl
  | [], _ :: _, h => by simp [eqAs] at h
  | a :: l, [], h => by simp [eqAs] at h
  | a :: l, b :: m, h => by
    simp only [eqAs, Bool.and_eq_true] at h
    rw [eqA_ok h.1, eqAs_ok h.2]

theorem both_some {a b : Option (List AV × List Obj)} {r : List AV × List Obj} (h : both a b = some r) : a = some r ∧ b = some r := by
  unfold both at h
  split at h
  · rename_i rs us
    split at h
    · rename_i he
      simp only [Option.some.injEq] at h
      subst h
      rw [eqAs_ok he]
      exact ⟨rfl, rfl⟩
    · simp at h
  · simp at h

theorem getO_pad {os : List Obj} {k j : Nat} {ob : Obj} (h : getO ((os ++ List.replicate k Obj.dead).map some) j = some ob) : getO (os.map some) j = some ob ∨ ob = Obj.dead := by
  rw [getO_map] at h ⊢
  rw [List.getElem?_append] at h
  split at h
  · exact .inl h
  · exact .inr (List.eq_of_mem_replicate (List.mem_of_getElem? h))
theorem getO_pad' {os : List Obj} {k j : Nat} {ob : Obj} (h : getO (os.map some) j = some ob) : getO ((os ++ List.replicate k Obj.dead).map some) j = some ob := by
  rw [getO_map] at h ⊢
  rw [List.getElem?_append_left (List.getElem?_eq_some_iff.1 h).1]
  exact h
theorem Evo.pad {x : Cx} {os : List Obj} {k : Nat} (id : Nat) : Evo x (os.map some) x ((os ++ List.replicate k Obj.dead).map some) id := by
  refine ⟨fun cs hc => ?_, fun e s o f l hc => ?_⟩
  · rcases getO_pad hc with h | h
    · exact ⟨⟨cs, h⟩, rfl⟩
    · cases h
  · rcases getO_pad hc with h | h
    · exact ⟨o, f, l, h, Nat.le_refl _, fun _ => ⟨rfl, rfl⟩⟩
    · cases h
theorem Post.pad {G : Cf} {x x' : Cx} {ins outs : List Obj} {rs : List AV} {us : List Value} (p : Post G x ins rs outs x' us) (k : Nat) : Post G x ins rs (outs ++ List.replicate k Obj.dead) x' us where
  inv := {
    obj := fun id o hg => by
      rcases getO_pad hg with h | rfl
      · exact (p.inv.obj id o h).mono (Ext.refl x') rfl rfl rfl fun j _ => Evo.pad j
      · trivial
    inj := fun i j oi oj gi gj di dj => by
      rcases getO_pad gi with h1 | h1
      · rcases getO_pad gj with h2 | h2
        · exact p.inv.inj i j oi oj h1 h2 di dj
        · exact absurd h2 dj
      · exact absurd h1 di
    own := fun id o hg hm => by
      rcases getO_pad hg with h | rfl
      · exact p.inv.own id o h hm
      · exact absurd hm fun h => h
    sh := p.inv.sh
    live := fun id o hg j hj => by
      rcases getO_pad hg with h | rfl
      · obtain ⟨ob, hob⟩ := Option.isSome_iff_exists.1 (p.inv.live id o h j hj)
        rw [getO_pad' hob]; rfl
      · simp [Obj.refs] at hj
    glob := p.inv.glob }
  step := {
    ext := p.step.ext
    size := p.step.size
    evo := fun id hd hs => by
      obtain ⟨h1, h2⟩ := p.step.evo id hd hs
      obtain ⟨ob, hob⟩ := Option.isSome_iff_exists.1 h2
      exact ⟨h1.trans (Evo.pad id), by rw [getO_pad' hob]; rfl⟩
    frame := p.step.frame
    sgrow := p.step.sgrow
    fresh := fun id ob hg hm => by
      rcases getO_pad hg with h | rfl
      · exact p.step.fresh id ob h hm
      · exact absurd hm fun h => h
    frow := fun id ob hg hm => by
      rcases getO_pad hg with h | rfl
      · exact p.step.frow id ob h hm
      · exact absurd hm fun h => h
    os := p.step.os
    tape := p.step.tape
    output := p.step.output }
  len := p.len
  rel := fun i a v h1 h2 => (p.rel i a v h1 h2).mono (Ext.refl x') fun id _ => Evo.pad id
  live := fun id hid => by
    obtain ⟨ob, hob⟩ := Option.isSome_iff_exists.1 (p.live id hid)
    rw [getO_pad' hob]; rfl
theorem padR_some {n : Nat} {r : Option (List AV × List Obj)} {rs : List AV} {os : List Obj} (h : padR n r = some (rs, os)) : ∃ os0, r = some (rs, os0) ∧ os = os0 ++ List.replicate (n - os0.length) Obj.dead := by
  unfold padR at h
  split at h
  · simp only [Option.some.injEq, Prod.mk.injEq] at h
    obtain ⟨rfl, rfl⟩ := h
    exact ⟨_, rfl, rfl⟩
  · simp at h

theorem evFn1_ok {tab : Nat → Option Fn} (ht : TabOk P tab) (hF : FnsOk P G F) (n : Nat) {f : Nat} {fn : Fn} (hfn : tab f = some fn) {args : List AV} {ins : List Obj} {rs : List AV} {outs : List Obj}
    (he : evFn1 G (fun s st => loopN n s st) F fn args ins = some (rs, outs)) : Contract P G (real f) args ins rs outs := by
  obtain ⟨func, an, h1, h2⟩ := ht f fn hfn
  obtain ⟨c, h3, h4, h5, h6, h7⟩ := trFn_inv h2
  unfold evFn1 at he
  split at he
  · have key : ∀ {ex : Ex} {st : St}, (ex = .normal ∨ ex = .ret) → evIR G (fun s st => loopN n s st) F fn.ns fn.body (start fn args ins) = some (ex, st) → padR (ins.length + cntT fn.keep) (finish fn ins.length st) = some (rs, outs) → Contract P G (real f) args ins rs outs := fun {ex st} hex hev hfin => by
      intro x vals hB hi hal har hlv
      obtain ⟨outs0, hfin0, rfl⟩ := padR_some hfin
      refine calls_of_wp h1 h3 ?_
      have hs := start_ok (fn := fn) h7 hB hi hal har hlv
      refine evIR_ok (x := x.up fn.ns) hF n fn.ns c an.body fn.body h4 hs hev fun x' a' hs' hst hd => ?_
      obtain ⟨us, hrun, x3, hw, hpost⟩ := finish_ok (P := P) (x := x) (func := func) hs' hst h5 hfin0
      have : bodyPost P func (fun e w' => ∃ us, e = .returned (mkRes us) ∧ ∃ x' : Cx, x'.w = w' ∧ Post G x ins rs (outs0 ++ List.replicate (ins.length + cntT fn.keep - outs0.length) Obj.dead) x' us) .normal a' x'.w := ⟨hd, mkRes us, hrun, us, rfl, x3, hw, hpost.pad _⟩
      rcases hex with rfl | rfl <;> exact this
    split at he
    · exact key (.inl rfl) (by assumption) he
    · exact key (.inr rfl) (by assumption) he
    · simp at he
  · simp at he

theorem canonA_get : ∀ {k : List Bool} {l : List AV} {i : Nat} {a : AV}, (canonA k l)[i]? = some a → ∃ b, l[i]? = some b ∧ (a = b ∨ a = b.canon)
  | [], [], i, a, h => by simp [canonA] at h
  | true :: k, [], i, a, h => by simp [canonA] at h
  | false :: k, [], i, a, h => by simp [canonA] at h
  | [], b :: l, 0, a, h => by simp [canonA] at h; exact ⟨b, rfl, .inr h.symm⟩
  | true :: k, b :: l, 0, a, h => by simp [canonA] at h; exact ⟨b, rfl, .inl h.symm⟩
  | false :: k, b :: l, 0, a, h => by simp [canonA] at h; exact ⟨b, rfl, .inr h.symm⟩
  | [], b :: l, i + 1, a, h => canonA_get (k := []) (l := l) (by simpa [canonA] using h)
  | true :: k, b :: l, i + 1, a, h => canonA_get (k := k) (l := l) (by simpa [canonA] using h)
  | false :: k, b :: l, i + 1, a, h => canonA_get (k := k) (l := l) (by simpa [canonA] using h)
theorem canonA_len : ∀ {k : List Bool} {l : List AV}, (canonA k l).length = l.length
  | [], [] => rfl
  | true :: k, [] => rfl
  | false :: k, [] => rfl
  | [], b :: l => by simp [canonA, canonA_len (k := []) (l := l)]
  | true :: k, b :: l => by simp [canonA, canonA_len (k := k) (l := l)]
  | false :: k, b :: l => by simp [canonA, canonA_len (k := k) (l := l)]
theorem canonA_refs : ∀ {k : List Bool} {l : List AV}, refsL (canonA k l) = refsL l
  | [], [] => rfl
  | true :: k, [] => rfl
  | false :: k, [] => rfl
  | [], b :: l => by simp [canonA, refsL, refs_canon, canonA_refs (k := []) (l := l)]
  | true :: k, b :: l => by simp [canonA, refsL, canonA_refs (k := k) (l := l)]
  | false :: k, b :: l => by simp [canonA, refsL, refs_canon, canonA_refs (k := k) (l := l)]

theorem evFnC_ok {tab : Nat → Option Fn} (ht : TabOk P tab) (hF : FnsOk P G F) (n : Nat) {f : Nat} {fn : Fn} (hfn : tab f = some fn) {args : List AV} {ins : List Obj} {rs : List AV} {outs : List Obj}
    (he : evFnC G (fun s st => loopN n s st) F fn args ins = some (rs, outs)) : Contract P G (real f) args ins rs outs := by
  unfold evFnC at he
  split at he
  · split at he
    · obtain ⟨e1, e2⟩ := both_some he
      have k1 := evFn1_ok ht hF n hfn e1
      have k2 := evFn1_ok ht hF n hfn e2
      intro x vals hB hi hal har hlv
      match vals, hal with
      | [v], _ =>
        have hl : ∀ a : AV, a.refs = [] → Live (ins.map some) [a] := fun a ha id hid => by simp [refsL, ha] at hid
        rcases (har 0 _ v rfl rfl).sl_nil with hr | hr
        · exact k1 x [v] hB hi rfl (fun i a u h1 h2 => by
            cases i with
            | zero => simp at h1 h2; subst h1 h2; exact hr
            | succ i => simp at h1) (hl _ rfl)
        · exact k2 x [v] hB hi rfl (fun i a u h1 h2 => by
            cases i with
            | zero => simp at h1 h2; subst h1 h2; exact hr
            | succ i => simp at h1) (hl _ rfl)
    · exact evFn1_ok ht hF n hfn he
  · exact evFn1_ok ht hF n hfn he

theorem evFn_ok {tab : Nat → Option Fn} (ht : TabOk P tab) (hF : FnsOk P G F) (n : Nat) : FnsOk P G (evFn tab G (fun s st => loopN n s st) F) where
  gf := hF.gf
  enters := fun f args ins r he => by
    simp only [evFn] at he
    split at he
    · rename_i fn hfn
      obtain ⟨func, an, h1, h2⟩ := ht f fn hfn
      obtain ⟨c, h3, _, _, h4, _⟩ := trFn_inv h2
      exact ⟨func, c, h1, h4, h3⟩
    · simp at he
  ok := fun f args ins rs outs he => by
    simp only [evFn] at he
    split at he
    · rename_i fn hfn
      have k := evFnC_ok ht hF n hfn he
      intro x vals hB hi hal har hlv
      refine k x vals hB hi (by rw [canonA_len]; exact hal) (fun i a v h1 h2 => ?_) fun id hid => hlv id (by rwa [canonA_refs] at hid)
      obtain ⟨b, h3, h4⟩ := canonA_get h1
      rcases h4 with rfl | rfl
      · exact har i a v h3 h2
      · exact (har i b v h3 h2).canon
    · simp at he

theorem evN_ok {tab : Nat → Option Fn} (ht : TabOk P tab) (hg : G.gf = true → ∀ g, G.G g = []) : ∀ n, FnsOk P G (evN tab G n)
  | 0 => ⟨fun f args ins rs outs he => by simp [evN] at he, fun f args ins r he => by simp [evN] at he, hg⟩
  | n + 1 => evFn_ok ht (evN_ok ht hg n) n

end
end Go.Ev
