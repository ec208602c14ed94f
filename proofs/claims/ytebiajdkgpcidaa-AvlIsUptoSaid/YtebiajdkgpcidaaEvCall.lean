/-
  Calls: a function's contract, and what a caller makes of it.
-/
import Derived.Test.YtebiajdkgpcidaaEvTr
set_option linter.unusedSimpArgs false
set_option linter.unusedVariables false
namespace Go.Ev

def mkRes (us : List Value) : Value := match us with
  | [u] => u
  | us => .tuple us.toArray

structure Post (G : Cf) (x : Cx) (ins : List Obj) (rs : List AV) (outs : List Obj) (x' : Cx) (us : List Value) : Prop where
  inv : Inv G x' (outs.map some)
  step : Step (fun _ => True) x (ins.map some) x' (outs.map some)
  len : rs.length = us.length
  rel : ∀ (i : Nat) (a : AV) (v : Value), rs[i]? = some a → us[i]? = some v → RelV x' (outs.map some) a v
  live : Live (outs.map some) rs

/-- What a call of a function with these arguments comes to. -/
def Contract (P : Program) (G : Cf) (f : FuncId) (args : List AV) (ins : List Obj) (rs : List AV) (outs : List Obj) : Prop :=
  ∀ (x : Cx) (vals : List Value), x.B0 = x.w.heap.size → Inv G x (ins.map some) → args.length = vals.length → (∀ (i : Nat) (a : AV) (v : Value), args[i]? = some a → vals[i]? = some v → RelV x (ins.map some) a v) → Live (ins.map some) args →
    Calls P f vals.toArray x.w fun e w' => ∃ us, e = .returned (mkRes us) ∧ ∃ x' : Cx, x'.w = w' ∧ Post G x ins rs outs x' us

def FnOk (P : Program) (G : Cf) (F : FnEv) : Prop := ∀ f args ins rs outs, F f args ins = some (rs, outs) → Contract P G (real f) args ins rs outs

/-! ### Heaps -/
theorem getO_map (os : List Obj) (j : Nat) : getO (os.map some) j = os[j]? := by
  unfold getO
  rw [List.getD_eq_getElem?_getD, List.getElem?_map]
  cases os[j]? <;> rfl

theorem getAll_spec {h : Heap} : ∀ {ids : List Nat} {os : List Obj}, getAll h ids = some os → os.length = ids.length ∧ ∀ (j id : Nat), ids[j]? = some id → ∃ o, getO h id = some o ∧ os[j]? = some o
  | [], os, he => by
    simp only [getAll, Option.some.injEq] at he
    subst he
    exact ⟨rfl, fun j id h => by simp at h⟩
  | i :: is, os, he => by
    simp only [getAll] at he
    split at he
    · rename_i o r h1 h2
      injection he with he
      subst he
      obtain ⟨h3, h4⟩ := getAll_spec h2
      refine ⟨by simp [h3], fun j id hj => ?_⟩
      cases j with
      | zero =>
        simp at hj
        subst hj
        exact ⟨o, h1, rfl⟩
      | succ j => simpa using h4 j id (by simpa using hj)
    · simp at he

theorem idxOf_ne {i s : Nat} {l : List Nat} (h : i ≠ s) : (i :: l).idxOf s = l.idxOf s + 1 := by
  rw [List.idxOf_cons]
  have : (i == s) = false := by simpa using h
  rw [this]; rfl

theorem putAll_spec : ∀ {ids : List Nat} {os : List Obj} {h : Heap}, ids.Nodup → os.length = ids.length → (∀ id ∈ ids, id < h.length) → (putAll ids os h).length = h.length ∧
    (∀ s, s ∉ ids → (putAll ids os h)[s]? = h[s]?) ∧ ∀ s, getO (putAll ids os h) s = if s ∈ ids then os[ids.idxOf s]? else getO h s
  | [], os, h, _, _, _ => by
    refine ⟨by simp [putAll], fun s _ => by simp [putAll], fun s => by simp [putAll]⟩
  | i :: is, [], h, _, hl, _ => by simp at hl
  | i :: is, o :: os, h, hn, hl, hlt => by
    have hi : i < h.length := hlt i (by simp)
    obtain ⟨h1, h2, h3⟩ := putAll_spec (ids := is) (os := os) (h := h.set i (some o)) (List.nodup_cons.1 hn).2 (by simpa using hl) (fun id hid => by simpa using hlt id (by simp [hid]))
    simp only [putAll]
    refine ⟨by simpa using h1, fun s hs => ?_, fun s => ?_⟩
    · rw [h2 s (fun h => hs (by simp [h])), List.getElem?_set_ne (fun h => hs (by simp [h]))]
    · rw [h3]
      by_cases c : s ∈ is
      · have hne : i ≠ s := by rintro rfl; exact (List.nodup_cons.1 hn).1 c
        rw [if_pos c, if_pos (by simp [c]), idxOf_ne hne]
        simp
      · rw [if_neg c]
        by_cases c2 : s = i
        · subst c2
          rw [if_pos (by simp), getO_set hi, if_pos rfl]
          simp
        · rw [if_neg (by simp [c, c2]), getO_set hi, if_neg c2]

theorem alloc_spec : ∀ {al : List (Nat × Obj)} {h h' : Heap}, alloc al h = some h' → h'.length = h.length ∧ (al.map (·.1)).Nodup ∧ (∀ p ∈ al, h[p.1]? = some none) ∧
    ∀ s, getO h' s = if s ∈ al.map (·.1) then (al.map (·.2))[(al.map (·.1)).idxOf s]? else getO h s
  | [], h, h', he => by
    simp only [alloc, Option.some.injEq] at he
    subst he
    exact ⟨rfl, by simp, by simp, fun s => by simp⟩
  | (i, o) :: r, h, h', he => by
    simp only [alloc] at he
    split at he
    · rename_i hi
      have hlt : i < h.length := (List.getElem?_eq_some_iff.1 hi).1
      obtain ⟨h1, h2, h3, h4⟩ := alloc_spec he
      have hni : i ∉ r.map (·.1) := fun hm => by
        obtain ⟨p, hp, hpe⟩ := List.mem_map.1 hm
        have := h3 p hp
        rw [hpe, List.getElem?_set_self hlt] at this
        simp at this
      refine ⟨by simpa using h1, by simp only [List.map_cons, List.nodup_cons]; exact ⟨hni, h2⟩, fun p hp => ?_, fun s => ?_⟩
      · rcases List.mem_cons.1 hp with hp | hp
        · subst hp; exact hi
        · have hne : i ≠ p.1 := fun he => hni (he ▸ List.mem_map.2 ⟨p, hp, rfl⟩)
          have := h3 p hp
          rwa [List.getElem?_set_ne hne] at this
      · rw [h4]
        simp only [List.map_cons]
        by_cases c : s ∈ r.map (·.1)
        · have hne : i ≠ s := fun he => hni (he ▸ c)
          rw [if_pos c, if_pos (by simp only [List.mem_cons]; exact .inr c), idxOf_ne hne]
          simp
        · rw [if_neg c]
          by_cases c2 : s = i
          · subst c2
            rw [if_pos (by simp), getO_set hlt, if_pos rfl]
            simp
          · rw [if_neg (by simp only [List.mem_cons, not_or]; exact ⟨c2, c⟩), getO_set hlt, if_neg c2]
    · simp at he

theorem zip_fst {α β : Type} : ∀ {l : List α} {m : List β}, l.length = m.length → (l.zip m).map (·.1) = l ∧ (l.zip m).map (·.2) = m
  | [], [], _ => ⟨rfl, rfl⟩
  | [], _ :: _, h => by simp at h
  | _ :: _, [], h => by simp at h
  | a :: l, b :: m, h => by
    obtain ⟨h1, h2⟩ := zip_fst (l := l) (m := m) (by simpa using h)
    exact ⟨by simp [h1], by simp [h2]⟩

theorem call_heap {h h' : Heap} {ids outs : List Nat} {os2 : List Obj} (hn : ids.Nodup) (hlive : ∀ id ∈ ids, (getO h id).isSome) (hlen : os2.length = ids.length + outs.length)
    (ha : alloc (outs.zip (os2.drop ids.length)) (putAll ids (os2.take ids.length) h) = some h') :
    (ids ++ outs).Nodup ∧ (∀ o ∈ outs, getO h o = none) ∧ ∀ s, getO h' s = if s ∈ ids ++ outs then os2[(ids ++ outs).idxOf s]? else getO h s := by
  obtain ⟨h1, h2, h3⟩ := putAll_spec (h := h) (os := os2.take ids.length) hn (by simp; omega) (fun id hid => getO_lt (hlive id hid))
  obtain ⟨h4, h5, h6, h7⟩ := alloc_spec ha
  obtain ⟨z1, z2⟩ := zip_fst (l := outs) (m := os2.drop ids.length) (by simp; omega)
  rw [z1] at h5
  have hnone : ∀ o ∈ outs, (putAll ids (os2.take ids.length) h)[o]? = some none := fun o ho => by
    rw [← z1] at ho
    obtain ⟨p, hp, hpe⟩ := List.mem_map.1 ho
    rw [← hpe]
    exact h6 p hp
  have hdis : ∀ o ∈ outs, o ∉ ids := fun o ho hi => by
    have := h3 o
    rw [if_pos hi] at this
    have h8 : getO (putAll ids (os2.take ids.length) h) o = none := by
      unfold getO
      rw [List.getD_eq_getElem?_getD, hnone o ho]
      rfl
    rw [h8] at this
    have hlt : ids.idxOf o < (os2.take ids.length).length := by
      have := List.idxOf_lt_length_of_mem hi
      simp; omega
    rw [List.getElem?_eq_getElem hlt] at this
    simp at this
  refine ⟨List.nodup_append.2 ⟨hn, h5, fun a ha b hb hab => hdis b hb (hab ▸ ha)⟩, fun o ho => ?_, fun s => ?_⟩
  · have := hnone o ho
    rw [h2 o (hdis o ho)] at this
    unfold getO
    rw [List.getD_eq_getElem?_getD, this]
    rfl
  · rw [h7, z1, z2]
    by_cases c : s ∈ outs
    · rw [if_pos c, if_pos (by simp [c]), List.idxOf_append, if_neg (hdis s c), List.getElem?_drop, Nat.add_comm]
    · rw [if_neg c, h3]
      by_cases c2 : s ∈ ids
      · rw [if_pos c2, if_pos (by simp [c2]), List.idxOf_append, if_pos c2, List.getElem?_take, if_pos (List.idxOf_lt_length_of_mem c2)]
      · rw [if_neg c2, if_neg (by simp [c, c2])]

theorem idx_get {ids : List Nat} {id : Nat} (h : id ∈ ids) : ids[ids.idxOf id]? = some id ∧ ids.getD (ids.idxOf id) 0 = id := by
  have h1 : ids[ids.idxOf id]? = some id := by
    rw [List.getElem?_eq_getElem (List.idxOf_lt_length_of_mem h), List.getElem_idxOf]
  exact ⟨h1, by simp [List.getD, h1]⟩

theorem nodup_idx {ids : List Nat} (hn : ids.Nodup) {j id : Nat} (h : ids[j]? = some id) : ids.idxOf id = j := by
  obtain ⟨h1, h2⟩ := List.getElem?_eq_some_iff.1 h
  rw [← h2]
  exact hn.idxOf_getElem j h1

theorem closed_spec {h : Heap} {roots ids : List Nat} (hc : closed h roots ids = true) : (∀ i ∈ roots, i ∈ ids) ∧ (∀ i ∈ ids, (getO h i).isSome) ∧ ∀ i o, i ∈ ids → getO h i = some o → ∀ j ∈ o.refs, j ∈ ids := by
  simp only [closed, Bool.and_eq_true, List.all_eq_true, List.contains_iff_mem] at hc
  refine ⟨fun i hi => hc.1 i hi, fun i hi => (hc.2 i hi).1, fun i o hi hg j hj => ?_⟩
  have := (hc.2 i hi).2 j
  simp only [refsO, hg] at this
  exact this hj

theorem finish_rel {x : Cx} {h : Heap} {rs : List AV} {us : List Value} (hl : rs.length = us.length) (hr : ∀ (i : Nat) (a : AV) (v : Value), rs[i]? = some a → us[i]? = some v → RelV x h a v) : RelV x h (finishCall rs) (mkRes us) := by
  match rs, us, hl with
  | [], [], _ => exact .tup [] [] rfl fun i a v h _ => by simp at h
  | [r], [u], _ => exact hr 0 r u rfl rfl
  | r :: r2 :: rs, u :: u2 :: us, hl => exact .tup _ _ hl hr

theorem finish_refs {rs : List AV} {id : Nat} (h : id ∈ (finishCall rs).refs) : id ∈ refsL rs := by
  match rs with
  | [] => simpa [finishCall, AV.refs] using h
  | [r] => simpa [finishCall, refsL] using h
  | r :: r2 :: rs => simpa [finishCall, AV.refs] using h

theorem Calls.enter {P : Program} {o : Oper} {a : Act} {w : World} {f : FuncId} {vals : Array Value} {K : Act → World → Prop} {Q : Exit → Act → World → Prop} (hrun : (execOp a.eval o).run P w = .ok (.enter f vals) w) {R : Value → World → Prop}
    (hc : Calls P f vals w fun e w' => ∃ v, e = .returned v ∧ R v w') (hk : ∀ v w', R v w' → K (a.put o.dst v) w') : o.wp P a w K Q := by
  unfold Oper.wp
  rw [hrun]
  exact hc.mono fun e w' ⟨v, he, hr⟩ => by subst he; exact hk v w' hr

section
variable {P : Program} {G : Cf} {x : Cx} {a : Act} {F : FnEv}

theorem evCall_ok (hF : FnOk P G F) (hgf : G.gf = true → ∀ g, G.G g = []) {o : Oper} {f : FuncId} {h h' : Heap} {args : List AV} {vals : List Value} {outs : List Nat} {v : AV} (hi : Inv G x h) (hB : x.B0 ≤ x.w.heap.size)
    (hrun : (execOp a.eval o).run P x.w = .ok (.enter (real f) vals.toArray) x.w) (hal : args.length = vals.length) (har : ∀ (i : Nat) (a : AV) (v : Value), args[i]? = some a → vals[i]? = some v → RelV x h a v) (hlv : Live h args)
    (he : evCall F h f args outs = some (v, h')) : OpOk P o a G x h v h' := by
  simp only [evCall] at he
  generalize hids : reach h (refsL args) = ids at he
  split at he
  · rename_i hcn
    simp only [Bool.and_eq_true, decide_eq_true_eq] at hcn
    obtain ⟨hcl, hnd⟩ := hcn
    obtain ⟨hroots, hlive, hrefs⟩ := closed_spec hcl
    split at he
    · rename_i os hos
      obtain ⟨hosl, hosg⟩ := getAll_spec hos
      split at he
      · rename_i rs os' hFe
        generalize fitO outs os'.length ids.length = outs at he
        split at he
        · rename_i hlen
          generalize hold : (isOldL args || os.any Obj.isOld || !G.gf) = old
          split at he
          · rename_i h'' hal'
            injection he with he
            injection he with e1 e2
            subst e1 e2
            -- the names
            generalize hr : (fun i => ids.idxOf i) = r at hFe
            have hrr : ∀ i, r i = ids.idxOf i := fun i => by rw [← hr]
            have hargs' : ageL true (renL r args) = trL r (fun _ => true) args := by rw [renL_tr, ageL_tr]
            have hos' : (os.map fun o => (o.ren r).age true) = os.map (Obj.tr r fun _ => true) := by
              congr 1
              funext o
              rw [Obj.ren_tr, Obj.age_tr]
            rw [hargs', hos'] at hFe
            generalize hall : ids ++ outs = all at hal' ⊢
            have hfix : (Obj.ren fun i => all.getD i 0) = Obj.tr (fun i => all.getD i 0) (fun o => o) := by
              funext o
              exact Obj.ren_tr _ o
            have hfixr : renL (fun i => all.getD i 0) rs = trL (fun i => all.getD i 0) (fun o => o) rs := renL_tr _ rs
            rw [hfix] at hal'
            rw [List.map_drop, List.map_take] at hal'
            rw [hfixr]
            obtain ⟨hnda, hnone, hget⟩ := call_heap hnd hlive (by simpa using hlen) hal'
            rw [hall] at hnda hget
            have hal2 : all.length = os'.length := by rw [← hall, List.length_append, hlen]
            generalize hb : (fun i => all.getD i 0) = b at hal' hget ⊢
            have hbb : ∀ i, b i = all.getD i 0 := fun i => by rw [← hb]
            have hget2 : ∀ s, getO h'' s = if s ∈ all then (os'[all.idxOf s]?).map (Obj.tr b (fun o => o)) else getO h s := fun s => by
              rw [hget s]
              by_cases c : s ∈ all <;> simp [c]
            have hmem : ∀ id ∈ ids, id ∈ all := fun id hid => by rw [← hall]; simp [hid]
            have hidxa : ∀ id ∈ ids, all.idxOf id = ids.idxOf id := fun id hid => by rw [← hall, List.idxOf_append, if_pos hid]
            -- down
            let xc : Cx := { w := x.w, S := fun k q => x.S k q ∧ (old = true ∨ x.B0 ≤ k), φ := fun j => x.φ (ids.getD j 0), κ := fun j => x.κ (ids.getD j 0), B0 := x.w.heap.size }
            generalize hins : os.map (Obj.tr r fun _ => true) = ins at hFe
            have hgc : ∀ j ob, getO (ins.map some) j = some ob → ∃ id ob0, ids[j]? = some id ∧ ids.getD j 0 = id ∧ getO h id = some ob0 ∧ ob = ob0.tr r (fun _ => true) ∧ os[j]? = some ob0 := fun j ob hj => by
              rw [getO_map, ← hins, List.getElem?_map, Option.map_eq_some_iff] at hj
              obtain ⟨ob0, h1, rfl⟩ := hj
              have hjl : j < ids.length := by rw [← hosl]; exact (List.getElem?_eq_some_iff.1 h1).1
              obtain ⟨o2, h2, h3⟩ := hosg j _ (List.getElem?_eq_getElem hjl)
              rw [h1] at h3
              injection h3 with h3
              subst h3
              exact ⟨ids[j], ob0, List.getElem?_eq_getElem hjl, by simp [List.getD, hjl], h2, rfl, h1⟩
            have hgc2 : ∀ id ob0, id ∈ ids → getO h id = some ob0 → getO (ins.map some) (r id) = some (ob0.tr r (fun _ => true)) := fun id ob0 hid hg => by
              obtain ⟨o2, h2, h3⟩ := hosg _ _ (idx_get hid).1
              rw [hg] at h2
              injection h2 with h2
              subst h2
              rw [getO_map, ← hins, List.getElem?_map, hrr, h3]
              rfl
            have hφc : ∀ id ∈ ids, xc.φ (r id) = x.φ id ∧ xc.κ (r id) = x.κ id := fun id hid => by
              have := (idx_get hid).2
              simp only [xc, hrr, this, and_self]
            have hTrId : ∀ id ∈ ids, TrId x h xc (ins.map some) r id := fun id hid => by
              refine ⟨fun cs' hc => ?_, fun e s o f l hc => ?_⟩
              · obtain ⟨i2, ob0, h1, h2, h3, h4, _⟩ := hgc _ _ hc
                have : i2 = id := by
                  have := (idx_get hid).1
                  rw [← hrr, h1] at this
                  injection this
                subst this
                cases ob0 <;> simp [Obj.tr] at h4
                exact ⟨⟨_, h3⟩, (hφc _ hid).1⟩
              · obtain ⟨i2, ob0, h1, h2, h3, h4, _⟩ := hgc _ _ hc
                have : i2 = id := by
                  have := (idx_get hid).1
                  rw [← hrr, h1] at this
                  injection this
                subst this
                cases ob0 <;> simp [Obj.tr] at h4
                obtain ⟨rfl, rfl, _, rfl, rfl⟩ := h4
                exact ⟨_, _, h3, (hφc _ hid).1, (hφc _ hid).2⟩
            have hTrSh : TrSh x xc (fun _ => true) old := fun o k q ho hS => ⟨⟨⟨hS.1, hS.2.imp ho id⟩, .inl rfl⟩, rfl⟩
            have hinv : Inv G xc (ins.map some) := {
              obj := fun j ob hj => by
                obtain ⟨id, ob0, h1, h2, h3, rfl, h5⟩ := hgc j ob hj
                have hid : id ∈ ids := List.mem_of_getElem? h1
                have hrj : r id = j := by rw [hrr]; exact nodup_idx hnd h1
                rw [← hrj]
                refine (hi.obj id ob0 h3).tr hTrSh (fun ho => ?_) (fun q hq => hTrId q (hrefs id ob0 hid h3 q hq)) rfl (hφc id hid).1 (hφc id hid).2 fun e s o0 f l _ hf => by simp at hf
                rw [← hold]
                simp only [Bool.or_eq_true]
                exact .inl (.inr (List.any_eq_true.2 ⟨ob0, List.mem_of_getElem? h5, ho⟩))
              inj := fun i j oi oj gi gj di dj hpp => by
                obtain ⟨id1, o1, h1, h2, h3, rfl, _⟩ := hgc i oi gi
                obtain ⟨id2, o2, k1, k2, k3, rfl, _⟩ := hgc j oj gj
                simp only [xc, h2, k2] at hpp
                have := hi.inj id1 id2 o1 o2 h3 k3 (by rintro rfl; exact di rfl) (by rintro rfl; exact dj rfl) hpp
                subst this
                have e1 := nodup_idx hnd h1
                have e2 := nodup_idx hnd k1
                omega
              own := fun j ob hj hm q hS => by
                obtain ⟨id, ob0, h1, h2, h3, rfl, _⟩ := hgc j ob hj
                simp only [xc, h2] at hS
                refine hi.own id ob0 h3 ?_ q hS.1
                cases ob0 <;> exact hm
              sh := fun k q hS => hi.sh k q hS.1
              live := fun j ob hj q hq => by
                obtain ⟨id, ob0, h1, h2, h3, rfl, _⟩ := hgc j ob hj
                rw [Obj.refs_tr, List.mem_map] at hq
                obtain ⟨q0, hq0, rfl⟩ := hq
                have hid := hrefs id ob0 (List.mem_of_getElem? h1) h3 q0 hq0
                obtain ⟨ob1, hob1⟩ := Option.isSome_iff_exists.1 (hlive q0 hid)
                rw [hgc2 q0 ob1 hid hob1]
                rfl
              glob := fun g j c hg => by
                obtain ⟨h1, v, h2, h3⟩ := hi.glob g j c hg
                have ho : old = true := by
                  cases hgg : G.gf with
                  | true => rw [hgf hgg g] at hg; simp at hg
                  | false => rw [← hold]; simp [hgg]
                exact ⟨⟨h1, .inl ho⟩, v, h2, h3.mono fun k q hS => ⟨⟨hS, .inl ho⟩, rfl⟩⟩ }
            have hrefsA : ∀ (i : Nat) (b : AV), args[i]? = some b → ∀ id ∈ b.refs, id ∈ ids := fun i b hb' id hid => hroots id (mem_refsL hb' hid)
            have hcontract := hF f _ _ _ _ hFe xc vals rfl hinv (by simpa [trL_map] using hal) (fun i b u h1 h2 => by
              rw [trL_map, List.getElem?_map, Option.map_eq_some_iff] at h1
              obtain ⟨b0, h3, rfl⟩ := h1
              refine (har i b0 u h3 h2).tr hTrSh (fun ho => ?_) fun id hid => hTrId id (hrefsA i b0 h3 id hid)
              rw [← hold]
              simp only [Bool.or_eq_true]
              exact .inl (.inl (isOldL_mem h3 ho))) (fun id hid => by
              rw [refsL_tr, List.mem_map] at hid
              obtain ⟨q0, hq0, rfl⟩ := hid
              have hid := hroots q0 hq0
              obtain ⟨ob1, hob1⟩ := Option.isSome_iff_exists.1 (hlive q0 hid)
              rw [hgc2 q0 ob1 hid hob1]
              rfl)
            intro K Q hK
            refine Calls.enter hrun (R := fun v w' => ∃ us, v = mkRes us ∧ ∃ x' : Cx, x'.w = w' ∧ Post G xc ins rs os' x' us) (hcontract.mono fun e w' ⟨us, h1, h2⟩ => ⟨mkRes us, h1, us, rfl, h2⟩) ?_
            rintro _ w' ⟨us, rfl, x1, rfl, post⟩
            -- up
            have hst := post.step
            let x2 : Cx := { w := x1.w, S := fun k q => x.S k q ∨ x1.S k q, φ := fun s => if s ∈ all then x1.φ (all.idxOf s) else x.φ s, κ := fun s => if s ∈ all then x1.κ (all.idxOf s) else x.κ s, B0 := x.B0 }
            have hx1B : x1.B0 = x.w.heap.size := hst.ext.b0
            have hyoung : old = false → ∀ k q, x1.S k q → x.B0 ≤ k := fun ho k q hS => by
              rcases hst.sgrow k q hS with h1 | ⟨j, ob, hj, hrow, _, hp⟩ | h1
              · exact h1.2.resolve_left (by simp [ho])
              · obtain ⟨id, ob0, h2, h3, h4, rfl, h5⟩ := hgc j ob hj
                simp only [xc, h3] at hp
                rw [← hp]
                have := hi.obj id ob0 h4
                cases ob0 <;> simp only [Obj.tr, Obj.isRow] at hrow
                rename_i oo _ _ _
                obtain ⟨_, _, _, _, _, _, _, _, _, _, h10⟩ := this
                refine h10 ?_
                cases hoo : oo with
                | false => rfl
                | true =>
                  have : old = true := by
                    rw [← hold]
                    simp only [Bool.or_eq_true]
                    exact .inl (.inr (List.any_eq_true.2 ⟨_, List.mem_of_getElem? h5, by simp [Obj.isOld, hoo]⟩))
                  rw [ho] at this
                  simp at this
              · exact Nat.le_trans hB h1
            have hbj : ∀ j, j < all.length → b j ∈ all ∧ all.idxOf (b j) = j := fun j hj => by
              have h1 : all[j]? = some (b j) := by rw [hbb]; simp [List.getD, hj]
              exact ⟨List.mem_of_getElem? h1, nodup_idx hnda h1⟩
            have hTr1 : ∀ j, (getO (os'.map some) j).isSome → TrId x1 (os'.map some) x2 h'' b j := fun j hj => by
              have hjl : j < all.length := by
                have := getO_lt hj
                simpa [hal2] using this
              obtain ⟨h1, h2⟩ := hbj j hjl
              have hφ : x2.φ (b j) = x1.φ j ∧ x2.κ (b j) = x1.κ j := by simp only [x2, if_pos h1, h2, and_self]
              refine ⟨fun cs' hc => ?_, fun e s o f l hc => ?_⟩
              · rw [hget2, if_pos h1, h2, Option.map_eq_some_iff] at hc
                obtain ⟨ob, h3, h4⟩ := hc
                cases ob <;> simp [Obj.tr] at h4
                exact ⟨⟨_, by rw [getO_map]; exact h3⟩, hφ.1⟩
              · rw [hget2, if_pos h1, h2, Option.map_eq_some_iff] at hc
                obtain ⟨ob, h3, h4⟩ := hc
                cases ob <;> simp [Obj.tr] at h4
                obtain ⟨rfl, rfl, _, rfl, rfl⟩ := h4
                exact ⟨_, _, by rw [getO_map]; exact h3, hφ.1, hφ.2⟩
            have hSh1 : TrSh x1 x2 (fun o => o) true := fun o k q _ hS => by
              refine ⟨⟨.inr hS.1, ?_⟩, rfl⟩
              refine hS.2.imp (fun h => h) fun h => ?_
              rw [hx1B] at h
              exact Nat.le_trans hB h
            have hext : Ext x x2 := ⟨rfl, fun k q hS => ⟨.inl hS, by
              have hk := hi.sh k q hS
              have := hst.frame k hk fun j ob hj hm hp => by
                obtain ⟨id, ob0, h1, h2, h3, rfl, _⟩ := hgc j ob hj
                simp only [xc, h2] at hp
                refine hi.own id ob0 h3 (by cases ob0 <;> exact hm) q (hp ▸ hS)
              simp only [World.cell?]
              rw [show x2.w.heap[k]? = x.w.heap[k]? from this]⟩⟩
            have hmutc : ∀ j ob, getO (ins.map some) j = some ob → ob.mut → ∃ id ob0, id ∈ ids ∧ getO h id = some ob0 ∧ ob0.mut ∧ xc.φ j = x.φ id := fun j ob hj hm => by
              obtain ⟨id, ob0, h1, h2, h3, rfl, _⟩ := hgc j ob hj
              exact ⟨id, ob0, List.mem_of_getElem? h1, h3, by cases ob0 <;> exact hm, by simp only [xc, h2]⟩
            have hrowc : ∀ j ob, getO (ins.map some) j = some ob → ob.isRow → ∃ id ob0, id ∈ ids ∧ getO h id = some ob0 ∧ ob0.isRow ∧ (ob.mut → ob0.mut) ∧ xc.φ j = x.φ id := fun j ob hj hm => by
              obtain ⟨id, ob0, h1, h2, h3, rfl, _⟩ := hgc j ob hj
              exact ⟨id, ob0, List.mem_of_getElem? h1, h3, by cases ob0 <;> exact hm, fun h => by cases ob0 <;> exact h, by simp only [xc, h2]⟩
            have hφ2 : ∀ s, s ∈ all → x2.φ s = x1.φ (all.idxOf s) ∧ x2.κ s = x1.κ (all.idxOf s) := fun s hs => by simp only [x2, if_pos hs, and_self]
            have hφ3 : ∀ s, s ∉ all → x2.φ s = x.φ s ∧ x2.κ s = x.κ s := fun s hs => by simp only [x2, if_neg hs, and_self]
            have hStep : Step (fun _ => True) x h x2 h'' := {
              ext := hext
              size := hst.size
              evo := fun id _ hsm => by
                by_cases c : id ∈ all
                · have hid : id ∈ ids := by
                    rw [← hall, List.mem_append] at c
                    refine c.resolve_right fun hout => ?_
                    rw [hnone id hout] at hsm
                    simp at hsm
                  obtain ⟨ob0, hob0⟩ := Option.isSome_iff_exists.1 hsm
                  have hgr := hgc2 id ob0 hid hob0
                  obtain ⟨ev, sm⟩ := hst.evo (r id) trivial (by rw [hgr]; rfl)
                  have hidx : all.idxOf id = r id := by rw [hidxa id hid, hrr]
                  have hg2 : getO h'' id = (getO (os'.map some) (r id)).map (Obj.tr b (fun o => o)) := by rw [hget2, if_pos c, hidx, getO_map]
                  refine ⟨⟨fun cs' hc => ?_, fun e s o f l' hc => ?_⟩, ?_⟩
                  · rw [hg2, Option.map_eq_some_iff] at hc
                    obtain ⟨ob, h3, h4⟩ := hc
                    cases ob <;> simp [Obj.tr] at h4
                    obtain ⟨⟨cs, h5⟩, h6⟩ := ev.1 _ h3
                    rw [hgr] at h5
                    injection h5 with h5
                    cases ob0 <;> simp [Obj.tr] at h5
                    exact ⟨⟨_, hob0⟩, by rw [(hφ2 id c).1, hidx, h6, (hφc id hid).1]⟩
                  · rw [hg2, Option.map_eq_some_iff] at hc
                    obtain ⟨ob, h3, h4⟩ := hc
                    cases ob <;> simp [Obj.tr] at h4
                    obtain ⟨rfl, rfl, _, rfl, rfl⟩ := h4
                    obtain ⟨o1, f1, l1, h5, h6, h7⟩ := ev.2 _ _ _ _ _ h3
                    rw [hgr] at h5
                    injection h5 with h5
                    cases ob0 <;> simp [Obj.tr] at h5
                    obtain ⟨rfl, rfl, _, rfl, rfl⟩ := h5
                    exact ⟨_, _, _, hob0, h6, fun hh => by rw [(hφ2 id c).1, (hφ2 id c).2, hidx, (h7 hh).1, (h7 hh).2]; exact hφc id hid⟩
                  · rw [hg2]
                    obtain ⟨ob, hob⟩ := Option.isSome_iff_exists.1 sm
                    rw [hob]; rfl
                · exact ⟨.same (by rw [hget2, if_neg c]) (hφ3 id c).1 (hφ3 id c).2, by rw [hget2, if_neg c]; exact hsm⟩
              frame := fun k hk hm => hst.frame k hk fun j ob hj hmut hp => by
                obtain ⟨id, ob0, _, h3, h4, h5⟩ := hmutc j ob hj hmut
                exact hm id ob0 h3 h4 (h5 ▸ hp)
              sgrow := fun k q hS => by
                rcases hS with hS | hS
                · exact .inl hS
                · rcases hst.sgrow k q hS with h1 | ⟨j, ob, hj, hrow, hmut, hp⟩ | h1
                  · exact .inl h1.1
                  · obtain ⟨id, ob0, _, h3, h4, h5, h6⟩ := hrowc j ob hj hrow
                    exact .inr (.inl ⟨id, ob0, h3, h4, h5 hmut, h6 ▸ hp⟩)
                  · exact .inr (.inr h1)
              fresh := fun id ob hg hmut => by
                by_cases c : id ∈ all
                · rw [hget2, if_pos c, Option.map_eq_some_iff] at hg
                  obtain ⟨ob1, h1, rfl⟩ := hg
                  rw [(hφ2 id c).1]
                  rcases hst.fresh _ ob1 (by rw [getO_map]; exact h1) (by cases ob1 <;> exact hmut) with ⟨j, ob2, hj, hm2, hp⟩ | h2
                  · obtain ⟨id0, ob0, _, h3, h4, h5⟩ := hmutc j ob2 hj hm2
                    exact .inl ⟨id0, ob0, h3, h4, hp.trans h5⟩
                  · exact .inr h2
                · rw [hget2, if_neg c] at hg
                  exact .inl ⟨id, ob, hg, hmut, (hφ3 id c).1⟩
              frow := fun id ob hg hrow => by
                by_cases c : id ∈ all
                · rw [hget2, if_pos c, Option.map_eq_some_iff] at hg
                  obtain ⟨ob1, h1, rfl⟩ := hg
                  rw [(hφ2 id c).1]
                  rcases hst.frow _ ob1 (by rw [getO_map]; exact h1) (by cases ob1 <;> exact hrow) with ⟨j, ob2, hj, hm2, hm3, hp⟩ | h2
                  · obtain ⟨id0, ob0, _, h3, h4, h5, h6⟩ := hrowc j ob2 hj hm2
                    exact .inl ⟨id0, ob0, h3, h4, fun hm => h5 (hm3 (by cases ob1 <;> exact hm)), hp.trans h6⟩
                  · exact .inr h2
                · rw [hget2, if_neg c] at hg
                  exact .inl ⟨id, ob, hg, hrow, fun h => h, (hφ3 id c).1⟩
              os := hst.os
              tape := hst.tape
              output := hst.output }
            have hblk : ∀ j ob, getO (os'.map some) j = some ob → ob ≠ .dead → (∃ id0 ob0, id0 ∈ ids ∧ getO h id0 = some ob0 ∧ ob0 ≠ .dead ∧ x1.φ j = x.φ id0) ∨ x.w.heap.size ≤ x1.φ j := fun j ob hj hd => by
              cases ob with
              | dead => exact absurd rfl hd
              | var cs =>
                rcases hst.fresh j _ hj trivial with ⟨j2, ob2, hj2, hm2, hp⟩ | h2
                · obtain ⟨id0, ob0, h2, h3, h4, h5⟩ := hmutc j2 ob2 hj2 hm2
                  exact .inl ⟨id0, ob0, h2, h3, Obj.mut_ne h4, hp.trans h5⟩
                · exact .inr h2
              | row e s o f l =>
                rcases hst.frow j _ hj trivial with ⟨j2, ob2, hj2, hm2, _, hp⟩ | h2
                · obtain ⟨id0, ob0, h2, h3, h4, _, h5⟩ := hrowc j2 ob2 hj2 hm2
                  exact .inl ⟨id0, ob0, h2, h3, by rintro rfl; exact h4, hp.trans h5⟩
                · exact .inr h2
            have hInv : Inv G x2 h'' := {
              obj := fun id ob hg => by
                by_cases c : id ∈ all
                · rw [hget2, if_pos c, Option.map_eq_some_iff] at hg
                  obtain ⟨ob1, h1, rfl⟩ := hg
                  have hg1 : getO (os'.map some) (all.idxOf id) = some ob1 := by rw [getO_map]; exact h1
                  have hbi : b (all.idxOf id) = id := by rw [hbb]; exact (idx_get c).2
                  have := (post.inv.obj _ ob1 hg1).tr (g := (fun o => o)) (ob := true) hSh1 (fun _ => rfl) (fun q hq => hTr1 q (post.inv.live _ ob1 hg1 q hq)) rfl (by rw [hbi]; exact (hφ2 id c).1) (by rw [hbi]; exact (hφ2 id c).2) fun e s o0 f l hrow hf => ?_
                  · rw [hbi] at this
                    exact this
                  · subst hrow
                    show x.B0 ≤ _
                    cases ho : old with
                    | true =>
                      have hf' : o0 = false := hf
                      obtain ⟨_, _, _, _, _, _, _, _, _, _, h10⟩ := post.inv.obj _ _ hg1
                      have := h10 hf'
                      omega
                    | false =>
                      rcases hst.frow _ _ hg1 trivial with ⟨j2, ob2, hj2, hm2, _, hp⟩ | h2
                      · obtain ⟨id0, ob0, k1, k2, k3, rfl, k5⟩ := hgc j2 ob2 hj2
                        rw [hp]
                        simp only [xc, k2]
                        have := hi.obj id0 ob0 k3
                        cases ob0 <;> simp only [Obj.tr, Obj.isRow] at hm2
                        rename_i oo _ _ _
                        obtain ⟨_, _, _, _, _, _, _, _, _, _, h10⟩ := this
                        refine h10 ?_
                        cases hoo : oo with
                        | false => rfl
                        | true =>
                          have : old = true := by
                            rw [← hold]
                            simp only [Bool.or_eq_true]
                            exact .inl (.inr (List.any_eq_true.2 ⟨_, List.mem_of_getElem? k5, by simp [Obj.isOld, hoo]⟩))
                          rw [ho] at this
                          simp at this
                      · exact Nat.le_trans hB h2
                · rw [hget2, if_neg c] at hg
                  by_cases hd : ob = .dead
                  · subst hd; trivial
                  · refine (hi.obj id ob hg).mono hext ?_ (hφ3 id c).1 (hφ3 id c).2 fun j hj => (hStep.evo j trivial (hi.live id ob hg j hj)).1
                    refine hst.frame _ (block_lt hi hg hd) fun j ob2 hj hm hp => ?_
                    obtain ⟨id0, ob0, h2, h3, h4, h5⟩ := hmutc j ob2 hj hm
                    rw [h5] at hp
                    have := hi.inj id0 id ob0 ob h3 hg (Obj.mut_ne h4) hd hp
                    subst this
                    exact c (hmem _ h2)
              inj := fun i j oi oj gi gj di dj hpp => by
                by_cases ci : i ∈ all
                · rw [hget2, if_pos ci, Option.map_eq_some_iff] at gi
                  obtain ⟨o1, h1, rfl⟩ := gi
                  have hd1 : o1 ≠ .dead := by rintro rfl; exact di rfl
                  rw [(hφ2 i ci).1] at hpp
                  by_cases cj : j ∈ all
                  · rw [hget2, if_pos cj, Option.map_eq_some_iff] at gj
                    obtain ⟨o2, h2, rfl⟩ := gj
                    have hd2 : o2 ≠ .dead := by rintro rfl; exact dj rfl
                    rw [(hφ2 j cj).1] at hpp
                    have := post.inv.inj _ _ o1 o2 (by rw [getO_map]; exact h1) (by rw [getO_map]; exact h2) hd1 hd2 hpp
                    have e1 := (idx_get ci).1
                    have e2 := (idx_get cj).1
                    rw [this, e2] at e1
                    injection e1 with e1
                    exact e1.symm
                  · rw [hget2, if_neg cj] at gj
                    rw [(hφ3 j cj).1] at hpp
                    rcases hblk _ o1 (by rw [getO_map]; exact h1) hd1 with ⟨id0, ob0, k1, k2, k3, k4⟩ | k1
                    · rw [k4] at hpp
                      have := hi.inj id0 j ob0 oj k2 gj k3 dj hpp
                      subst this
                      exact absurd (hmem _ k1) cj
                    · have := block_lt hi gj dj
                      omega
                · rw [hget2, if_neg ci] at gi
                  rw [(hφ3 i ci).1] at hpp
                  by_cases cj : j ∈ all
                  · rw [hget2, if_pos cj, Option.map_eq_some_iff] at gj
                    obtain ⟨o2, h2, rfl⟩ := gj
                    have hd2 : o2 ≠ .dead := by rintro rfl; exact dj rfl
                    rw [(hφ2 j cj).1] at hpp
                    rcases hblk _ o2 (by rw [getO_map]; exact h2) hd2 with ⟨id0, ob0, k1, k2, k3, k4⟩ | k1
                    · rw [k4] at hpp
                      have := hi.inj i id0 oi ob0 gi k2 di k3 hpp
                      subst this
                      exact absurd (hmem _ k1) ci
                    · have := block_lt hi gi di
                      omega
                  · rw [hget2, if_neg cj] at gj
                    rw [(hφ3 j cj).1] at hpp
                    exact hi.inj i j oi oj gi gj di dj hpp
              own := fun id ob hg hmut q hS => by
                by_cases c : id ∈ all
                · rw [hget2, if_pos c, Option.map_eq_some_iff] at hg
                  obtain ⟨ob1, h1, rfl⟩ := hg
                  have hm1 : ob1.mut := by cases ob1 <;> exact hmut
                  have hg1 : getO (os'.map some) (all.idxOf id) = some ob1 := by rw [getO_map]; exact h1
                  rw [(hφ2 id c).1] at hS
                  rcases hS with hS | hS
                  · rcases hst.fresh _ ob1 hg1 hm1 with ⟨j, ob2, hj, hm2, hp⟩ | h2
                    · obtain ⟨id0, ob0, _, h3, h4, h5⟩ := hmutc j ob2 hj hm2
                      rw [hp, h5] at hS
                      exact hi.own id0 ob0 h3 h4 q hS
                    · have := hi.sh _ _ hS
                      exact absurd (Nat.lt_of_lt_of_le this h2) (Nat.lt_irrefl _)
                  · exact post.inv.own _ ob1 hg1 hm1 q hS
                · rw [hget2, if_neg c] at hg
                  rw [(hφ3 id c).1] at hS
                  rcases hS with hS | hS
                  · exact hi.own id ob hg hmut q hS
                  · rcases hst.sgrow _ q hS with h1 | ⟨j, ob2, hj, hrow, hm2, hp⟩ | h1
                    · exact hi.own id ob hg hmut q h1.1
                    · obtain ⟨id0, ob0, k1, k2, k3, k4, k5⟩ := hrowc j ob2 hj hrow
                      rw [k5] at hp
                      have := hi.inj id0 id ob0 ob k2 hg (by rintro rfl; exact k3) (Obj.mut_ne hmut) hp
                      subst this
                      exact c (hmem _ k1)
                    · have := block_lt hi hg (Obj.mut_ne hmut)
                      have h1' : x.w.heap.size ≤ x.φ id := h1
                      omega
              sh := fun k q hS => by
                rcases hS with hS | hS
                · exact Nat.lt_of_lt_of_le (hi.sh k q hS) hst.size
                · exact post.inv.sh k q hS
              live := fun id ob hg j hj => by
                by_cases c : id ∈ all
                · rw [hget2, if_pos c, Option.map_eq_some_iff] at hg
                  obtain ⟨ob1, h1, rfl⟩ := hg
                  rw [Obj.refs_tr, List.mem_map] at hj
                  obtain ⟨j0, hj0, rfl⟩ := hj
                  have hsm := post.inv.live _ ob1 (by rw [getO_map]; exact h1) j0 hj0
                  have hjl : j0 < all.length := by
                    have := getO_lt hsm
                    simpa [hal2] using this
                  obtain ⟨k1, k2⟩ := hbj j0 hjl
                  rw [hget2, if_pos k1, k2]
                  rw [getO_map] at hsm
                  obtain ⟨ob2, hob2⟩ := Option.isSome_iff_exists.1 hsm
                  rw [hob2]; rfl
                · rw [hget2, if_neg c] at hg
                  exact (hStep.evo j trivial (hi.live id ob hg j hj)).2
              glob := fun g j c hg => by
                obtain ⟨h1, v, h2, h3⟩ := hi.glob g j c hg
                exact ⟨.inl h1, v, ((hext.cells _ _ h1).2).trans h2, h3.mono fun k q hS => hext.cells k q hS⟩ }
            refine hK x2 (mkRes us) hInv hStep (finish_rel (by simpa [trL_map] using post.len) fun i b' u h1 h2 => ?_) fun id hid => ?_
            · rw [trL_map, List.getElem?_map, Option.map_eq_some_iff] at h1
              obtain ⟨b0, h3, rfl⟩ := h1
              exact (post.rel i b0 u h3 h2).tr hSh1 (fun _ => rfl) fun j hj => hTr1 j (post.live j (mem_refsL h3 hj))
            · have hid := finish_refs hid
              rw [refsL_tr, List.mem_map] at hid
              obtain ⟨j0, hj0, rfl⟩ := hid
              have hsm := post.live j0 hj0
              have hjl : j0 < all.length := by
                have := getO_lt hsm
                simpa [hal2] using this
              obtain ⟨k1, k2⟩ := hbj j0 hjl
              rw [hget2, if_pos k1, k2]
              rw [getO_map] at hsm
              obtain ⟨ob2, hob2⟩ := Option.isSome_iff_exists.1 hsm
              rw [hob2]; rfl
          · simp at he
        · simp at he
      · simp at he
    · simp at he
  · simp at he

end
end Go.Ev
