/-
  What an operation looks at, and what it touches: two operations that have nothing in common may be swapped.
-/
import Derived.Test.YtebiajdkgpcidaaEvOne
set_option linter.unusedSimpArgs false
set_option linter.unusedVariables false
namespace Go.Ev

/-! ### Temporaries -/
def O.tmps : O → List Nat
  | .t i => [i]
  | _ => []
def oTmps : Option O → List Nat
  | some x => x.tmps
  | none => []

def Op1.tmps : Op1 → List Nat
  | .mv x => x.tmps
  | .cn x => x.tmps
  | .pick c a b => c.tmps ++ a.tmps ++ b.tmps
  | .new _ _ => []
  | .box _ _ x => x.tmps
  | .build _ ps => ps.flatMap fun p => p.2.2.tmps
  | .litd _ _ _ ps => ps.flatMap fun p => p.2.tmps
  | .lit _ _ _ _ _ ps => ps.flatMap fun p => p.2.tmps
  | .nilc x => x.tmps
  | .bin _ _ x y => x.tmps ++ y.tmps
  | .un _ x => x.tmps
  | .conv _ x => x.tmps
  | .s2b x => x.tmps
  | .mki _ x => x.tmps
  | .mkf _ cs => cs.flatMap O.tmps
  | .make _ _ _ _ _ x y => x.tmps ++ y.tmps
  | .slice _ x lo hi m => x.tmps ++ oTmps lo ++ oTmps hi ++ oTmps m
  | .slices x lo hi => x.tmps ++ oTmps lo ++ oTmps hi
  | .fa _ x => x.tmps
  | .fld _ _ _ x => x.tmps
  | .iap _ _ x y => x.tmps ++ y.tmps
  | .ix _ _ _ x y => x.tmps ++ y.tmps
  | .ixs x y => x.tmps ++ y.tmps
  | .ext _ x => x.tmps
  | .mx x y => x.tmps ++ y.tmps
  | .mn x y => x.tmps ++ y.tmps
  | .capn x => x.tmps
  | .qcall _ as _ => as.flatMap O.tmps
  | .load _ _ x => x.tmps
  | .b2s x => x.tmps
  | .cmpb x y => x.tmps ++ y.tmps
  | .ia _ x y => x.tmps ++ y.tmps
  | .len _ x => x.tmps
  | .store _ x y => x.tmps ++ y.tmps
  | .call _ as _ => as.flatMap O.tmps
  | .callv g as _ => g.tmps ++ as.flatMap O.tmps
  | .bcall _ as _ => as.flatMap O.tmps
  | .app _ _ _ _ x y => x.tmps ++ y.tmps
  | .appz _ _ _ _ _ x y => x.tmps ++ y.tmps
  | .trunc _ x y => x.tmps ++ y.tmps
  | .markb x => x.tmps
  | .trap => []

/-- The same at the temporaries named. -/
def AgT (l : List Nat) (t u : List AV) : Prop := ∀ i ∈ l, t.getD i .undef = u.getD i .undef

section
variable {G : Cf} {F : FnEv} {t u : List AV}

theorem AgT.left {l m : List Nat} (h : AgT (l ++ m) t u) : AgT l t u := fun i hi => h i (by simp [hi])
theorem AgT.right {l m : List Nat} (h : AgT (l ++ m) t u) : AgT m t u := fun i hi => h i (by simp [hi])
theorem rho_ag {x : O} (h : AgT x.tmps t u) : rho G t x = rho G u x := by
  cases x <;> simp only [rho]
  exact h _ (by simp [O.tmps])
theorem map_ag {l : List O} (h : AgT (l.flatMap O.tmps) t u) : l.map (rho G t) = l.map (rho G u) :=
  List.map_congr_left fun x hx => rho_ag fun i hi => h i (List.mem_flatMap.2 ⟨x, hx, hi⟩)
theorem bound_ag {n : Nat} {x : O} (h : AgT x.tmps t u) : bound G t n x = bound G u n x := by
  simp only [bound, rho_ag h]
theorem bounds_ag {n : Nat} {lo hi mx : Option O} (h1 : AgT (oTmps lo) t u) (h2 : AgT (oTmps hi) t u) (h3 : AgT (oTmps mx) t u) : bounds G t n lo hi mx = bounds G u n lo hi mx := by
  have e1 : ∀ (x : O), lo = some x → ∀ n, bound G t n x = bound G u n x := fun x hx n => bound_ag (by subst hx; exact h1)
  have e2 : ∀ (x : O), hi = some x → ∀ n, bound G t n x = bound G u n x := fun x hx n => bound_ag (by subst hx; exact h2)
  have e3 : ∀ (x : O), mx = some x → ∀ n, bound G t n x = bound G u n x := fun x hx n => bound_ag (by subst hx; exact h3)
  cases lo <;> cases hi <;> cases mx <;> simp only [bounds] <;> first
    | rfl
    | simp [e1 _ rfl, e2 _ rfl, e3 _ rfl]
    | simp [e1 _ rfl, e2 _ rfl]
    | simp [e1 _ rfl, e3 _ rfl]
    | simp [e2 _ rfl, e3 _ rfl]
    | simp [e1 _ rfl]
    | simp [e2 _ rfl]
    | simp [e3 _ rfl]
theorem partsA_ag {l : List (Nat × Nat × O)} (h : AgT (l.flatMap fun p => p.2.2.tmps) t u) : partsA G t l = partsA G u l := by
  induction l with
  | nil => rfl
  | cons p l ih =>
    obtain ⟨off, n, x⟩ := p
    simp only [List.flatMap_cons] at h
    simp only [partsA, ih h.right, rho_ag h.left]
theorem partsE_ag {sz n : Nat} {l : List (Nat × O)} (h : AgT (l.flatMap fun p => p.2.tmps) t u) : partsE G t sz n l = partsE G u sz n l := by
  induction l with
  | nil => rfl
  | cons p l ih =>
    obtain ⟨off, x⟩ := p
    simp only [List.flatMap_cons] at h
    simp only [partsE, ih h.right, rho_ag h.left]
theorem isOldParts_ag {l : List (Nat × O)} (h : AgT (l.flatMap fun p => p.2.tmps) t u) : isOldParts G t l = isOldParts G u l := by
  induction l with
  | nil => rfl
  | cons p l ih =>
    obtain ⟨off, x⟩ := p
    simp only [List.flatMap_cons] at h
    simp only [isOldParts, ih h.right, rho_ag h.left]

theorem evP_ag {o : Op1} (h : AgT o.tmps t u) : evP G t F o = evP G u F o := by
  cases o <;> simp only [Op1.tmps] at h <;> simp only [evP] <;> first
    | rfl
    | simp only [rho_ag h]
    | simp only [rho_ag h.left, rho_ag h.right]
    | simp only [rho_ag h.left.left, rho_ag h.left.right, rho_ag h.right]
    | simp only [partsA_ag h]
    | simp only [partsE_ag h, isOldParts_ag h]
    | simp only [map_ag h]
    | simp only [rho_ag h.left.left.left, bounds_ag h.left.left.right h.left.right h.right]
    | (simp only [rho_ag h.left.left, bounds_ag (mx := none) h.left.right h.right (fun i hi => by simp [oTmps] at hi)])
theorem evR_ag {o : Op1} {h0 : Heap} (h : AgT o.tmps t u) : evR G t h0 o = evR G u h0 o := by
  cases o <;> simp only [Op1.tmps] at h <;> simp only [evR] <;> first
    | rfl
    | simp only [rho_ag h]
    | simp only [rho_ag h.left, rho_ag h.right]
theorem evW_ag {o : Op1} {h0 : Heap} (h : AgT o.tmps t u) : evW G t F h0 o = evW G u F h0 o := by
  cases o <;> simp only [Op1.tmps] at h <;> simp only [evW] <;> first
    | rfl
    | simp only [rho_ag h]
    | simp only [rho_ag h.left, rho_ag h.right]
    | simp only [map_ag h]
    | simp only [rho_ag h.left, map_ag h.right]
theorem ev1_ag {o : Op1} {h0 : Heap} (h : AgT o.tmps t u) : ev1 G F ⟨t, h0⟩ o = ev1 G F ⟨u, h0⟩ o := by
  simp only [ev1, evP_ag h, evR_ag h, evW_ag h]

/-- The same at the slots named. -/
def AgH (l : List Nat) (h k : Heap) : Prop := ∀ i ∈ l, h[i]? = k[i]?
/-- The same but for the slots named. -/
def ButH (l : List Nat) (h k : Heap) : Prop := ∀ i, i ∉ l → h[i]? = k[i]?

theorem AgH.getO {l : List Nat} {h k : Heap} (ha : AgH l h k) {i : Nat} (hi : i ∈ l) : getO h i = getO k i := by
  simp only [Ev.getO, List.getD_eq_getElem?_getD, ha i hi]
theorem AgH.mono {l m : List Nat} {h k : Heap} (ha : AgH l h k) (hm : ∀ i ∈ m, i ∈ l) : AgH m h k := fun i hi => ha i (hm i hi)
theorem AgH.rowAt {l : List Nat} {h k : Heap} (ha : AgH l h k) {i n : Nat} (hi : i ∈ l) : rowAt h i n = rowAt k i n := by
  simp only [Ev.rowAt, ha.getO hi]
theorem AgH.elems {l : List Nat} {h k : Heap} {v : AV} (ha : AgH l h k) (hi : ∀ i ∈ v.refs, i ∈ l) : elems h v = elems k v := by
  cases v <;> simp only [Ev.elems]
  rw [ha.rowAt (hi _ (by simp [AV.refs]))]

def srcE (h : Heap) (v : AV) : Option (Bool × List (List C)) := match v with
  | .s (.string s) => some (false, eB s.data.toList)
  | v => elems h v

theorem evW_app {h : Heap} {slot ety sz bytes : Nat} {x y : O} : evW G t F h (.app slot ety sz bytes x y) = match srcE h (rho G t y) with
    | some (o, m) => if szOk sz m then (match rho G t x with
      | .nilsl => if m.isEmpty then some (.nilsl, h) else if m.length * bytes ≤ 140737488355328 ∧ m.length ≤ 140737488355328 then (match alloc [(slot, .row ety sz o false m)] h with
        | some h' => some (.row slot m.length, h')
        | none => none) else none
      | .row id n => match rowAt h id n with
        | some (e, s, o', false, l) => if e = ety ∧ s = sz ∧ (l.length + m.length) * bytes ≤ 140737488355328 ∧ l.length + m.length ≤ 140737488355328 then some (.row id (l ++ m).length, h.set id (some (.row e s (o' || o) false (l ++ m)))) else none
        | _ => none
      | _ => none) else none
    | none => none := rfl

/-- What an operation does stays within its slots, and looks at nothing else. -/
structure Local (f : Heap → Option (AV × Heap)) (l : List Nat) (h : Heap) (v : AV) (h1 : Heap) : Prop where
  run : f h = some (v, h1)
  len : h1.length = h.length
  but : ButH l h h1
  ag : ∀ k, k.length = h.length → AgH l h k → ∃ k1, f k = some (v, k1) ∧ AgH l h1 k1 ∧ k1.length = k.length ∧ ButH l k k1

theorem set_but {l : List Nat} {h : Heap} {i : Nat} {o : Option Obj} (hi : i ∈ l) : ButH l h (h.set i o) := fun j hj => by
  rw [List.getElem?_set_ne (fun e => by subst e; exact hj hi)]
theorem set_ag {l : List Nat} {h k : Heap} (ha : AgH l h k) (hl : k.length = h.length) (i : Nat) (o : Option Obj) : AgH l (h.set i o) (k.set i o) := fun j hj => by
  by_cases c : i = j
  · subst c
    by_cases hlt : i < h.length
    · rw [List.getElem?_set_self hlt, List.getElem?_set_self (by omega)]
    · rw [List.getElem?_eq_none (by simp; omega), List.getElem?_eq_none (by simp; omega)]
  · rw [List.getElem?_set_ne c, List.getElem?_set_ne c]; exact ha j hj
theorem ButH.refl (l : List Nat) (h : Heap) : ButH l h h := fun _ _ => rfl
theorem ButH.trans {l : List Nat} {h k m : Heap} (a : ButH l h k) (b : ButH l k m) : ButH l h m := fun i hi => (a i hi).trans (b i hi)

theorem alloc_local : ∀ {al : List (Nat × Obj)} {l : List Nat} {h h1 k : Heap}, (∀ p ∈ al, p.1 ∈ l) → alloc al h = some h1 → k.length = h.length → AgH l h k →
    h1.length = h.length ∧ ButH l h h1 ∧ ∃ k1, alloc al k = some k1 ∧ AgH l h1 k1 ∧ k1.length = k.length ∧ ButH l k k1
  | [], l, h, h1, k, _, he, hl, ha => by
    simp only [alloc, Option.some.injEq] at he
    subst he
    exact ⟨rfl, .refl _ _, k, rfl, ha, rfl, .refl _ _⟩
  | (i, o) :: r, l, h, h1, k, hin, he, hl, ha => by
    have hi : i ∈ l := hin (i, o) (by simp)
    simp only [alloc] at he ⊢
    split at he
    · rename_i hn
      obtain ⟨h2, h3, k1, h4, h5, h6, h7⟩ := alloc_local (l := l) (k := k.set i (some o)) (fun p hp => hin p (by simp [hp])) he (by simpa using hl) (set_ag ha hl i _)
      refine ⟨by simpa using h2, (set_but hi).trans h3, k1, ?_, h5, by simpa using h6, (set_but hi).trans h7⟩
      rw [← ha i hi, hn]
      exact h4
    · simp at he

theorem local_p {al : List (Nat × Obj)} {l : List Nat} {h h1 : Heap} {v : AV} (hin : ∀ p ∈ al, p.1 ∈ l) (he : alloc al h = some h1) :
    Local (fun h => match alloc al h with | some h => some (v, h) | none => none) l h v h1 := by
  obtain ⟨h2, h3, _⟩ := alloc_local (k := h) hin he rfl fun _ _ => rfl
  refine ⟨by simp [he], h2, h3, fun k hk ha => ?_⟩
  obtain ⟨_, _, k1, h4, h5, h6, h7⟩ := alloc_local hin he hk ha
  exact ⟨k1, by simp [h4], h5, h6, h7⟩

theorem Local.read {f : Heap → Option AV} {l : List Nat} {h : Heap} {v : AV} (he : f h = some v) (hf : ∀ k, AgH l h k → f k = f h) : Local (fun h => match f h with | some v => some (v, h) | none => none) l h v h :=
  ⟨by simp [he], rfl, .refl _ _, fun k hk ha => ⟨k, by simp [hf k ha, he], ha, rfl, .refl _ _⟩⟩

theorem putAll_local : ∀ {ids : List Nat} {os : List Obj} {l : List Nat} {h k : Heap}, (∀ i ∈ ids, i ∈ l) → k.length = h.length → AgH l h k →
    (putAll ids os h).length = h.length ∧ ButH l h (putAll ids os h) ∧ AgH l (putAll ids os h) (putAll ids os k)
  | [], os, l, h, k, _, hl, ha => ⟨rfl, .refl _ _, ha⟩
  | i :: is, [], l, h, k, _, hl, ha => ⟨rfl, .refl _ _, ha⟩
  | i :: is, o :: os, l, h, k, hin, hl, ha => by
    simp only [putAll]
    obtain ⟨h1, h2, h3⟩ := putAll_local (ids := is) (os := os) (l := l) (h := h.set i (some o)) (k := k.set i (some o)) (fun j hj => hin j (by simp [hj])) (by simpa using hl) (set_ag ha hl i _)
    exact ⟨by simpa using h1, (set_but (hin i (by simp))).trans h2, h3⟩

theorem getAll_local {l : List Nat} {h k : Heap} (ha : AgH l h k) : ∀ {ids : List Nat}, (∀ i ∈ ids, i ∈ l) → getAll k ids = getAll h ids
  | [], _ => rfl
  | i :: is, hin => by
    simp only [getAll, ha.getO (hin i (by simp)), getAll_local (ids := is) ha fun j hj => hin j (by simp [hj])]

theorem reachN_sub : ∀ (n : Nat) (h : Heap) (w seen : List Nat), ∀ i ∈ seen, i ∈ reachN n h w seen
  | 0, _, _, _, i, hi => hi
  | n + 1, _, [], _, i, hi => hi
  | n + 1, h, j :: w, seen, i, hi => by
    simp only [reachN]
    split
    · exact reachN_sub n h w seen i hi
    · exact reachN_sub n h _ _ i (by simp [hi])

theorem reachN_local {h k : Heap} : ∀ (n : Nat) (w seen : List Nat), AgH (reachN n h w seen) h k → reachN n k w seen = reachN n h w seen
  | 0, _, _, _ => rfl
  | n + 1, [], _, _ => rfl
  | n + 1, j :: w, seen, ha => by
    simp only [reachN] at ha ⊢
    split
    · rename_i hc
      rw [if_pos hc] at ha
      exact reachN_local n w seen ha
    · rename_i hc
      rw [if_neg hc] at ha
      have hj : j ∈ reachN n h (refsO h j ++ w) (seen ++ [j]) := reachN_sub n h _ _ j (by simp)
      have : refsO k j = refsO h j := by simp only [refsO, ha.getO hj]
      rw [this]
      exact reachN_local n _ _ ha

theorem closed_local {h k : Heap} {roots ids : List Nat} (ha : AgH ids h k) : closed k roots ids = closed h roots ids := by
  simp only [closed]
  congr 1
  rw [Bool.eq_iff_iff, List.all_eq_true, List.all_eq_true]
  constructor <;> intro hh i hi
  · have := hh i hi
    simpa only [refsO, ha.getO hi] using this
  · have := hh i hi
    simpa only [refsO, ha.getO hi] using this

theorem evCall_local {f : Nat} {args : List AV} {outs : List Nat} {h h1 : Heap} {v : AV} (he : evCall F h f args outs = some (v, h1)) :
    Local (fun h => evCall F h f args outs) (reach h (refsL args) ++ outs) h v h1 := by
  have he0 := he
  generalize hl : reach h (refsL args) ++ outs = l
  generalize hids : reach h (refsL args) = ids at hl he
  have hil : ∀ i ∈ ids, i ∈ l := fun i hi => by rw [← hl]; simp [hi]
  have hol : ∀ i ∈ outs, i ∈ l := fun i hi => by rw [← hl]; simp [hi]
  have hr : ∀ k, AgH l h k → reach k (refsL args) = ids := fun k ha => by
    rw [← hids]
    exact reachN_local 100 _ _ (ha.mono fun i hi => hil i (by rw [← hids]; exact hi))
  have key : ∀ k, k.length = h.length → AgH l h k → h1.length = h.length ∧ ButH l h h1 ∧ ∃ k1, evCall F k f args outs = some (v, k1) ∧ AgH l h1 k1 ∧ k1.length = k.length ∧ ButH l k k1 := fun k hk ha => by
    simp only [evCall, hr k ha]
    simp only [evCall, hids] at he
    rw [closed_local (ha.mono hil), getAll_local ha hil]
    split at he
    · rename_i hcn
      rw [if_pos hcn]
      split at he
      · rename_i os hos
        split at he
        · rename_i rs os' hF
          have hol2 : ∀ i ∈ fitO outs os'.length ids.length, i ∈ l := fun i hi => hol i (List.mem_of_mem_take hi)
          generalize fitO outs os'.length ids.length = outs2 at he hol2 ⊢
          split at he
          · rename_i hlen
            rw [if_pos hlen]
            split at he
            · rename_i h'' hal
              simp only [Option.some.injEq, Prod.mk.injEq] at he
              obtain ⟨e1, e2⟩ := he
              subst e1 e2
              generalize hfx : (Obj.ren fun i => (ids ++ outs2).getD i 0) = fx at hal ⊢
              obtain ⟨p1, p2, p3⟩ := putAll_local (os := (os'.take ids.length).map fx) hil hk ha
              obtain ⟨p4, p5, _⟩ := putAll_local (h := k) (k := k) (os := (os'.take ids.length).map fx) (l := l) hil rfl fun _ _ => rfl
              obtain ⟨q1, q2, k1, q3, q4, q5, q6⟩ := alloc_local (l := l) (k := putAll ids ((os'.take ids.length).map fx) k) (fun p hp => hol2 _ (List.of_mem_zip (show (p.1, p.2) ∈ _ from hp)).1) hal (by rw [p4, p1, hk]) p3
              refine ⟨by rw [q1, p1], p2.trans q2, k1, ?_, q4, by rw [q5, p4], p5.trans q6⟩
              rw [q3]
            · simp at he
          · simp at he
        · simp at he
      · simp at he
    · simp at he
  obtain ⟨h2, h3, _⟩ := key h rfl fun _ _ => rfl
  exact ⟨he0, h2, h3, fun k hk ha => (key k hk ha).2.2⟩

theorem Local.mono {f : Heap → Option (AV × Heap)} {l m : List Nat} {h h1 : Heap} {v : AV} (hl : Local f l h v h1) (hm : ∀ i ∈ l, i ∈ m) : Local f m h v h1 where
  run := hl.run
  len := hl.len
  but := fun i hi => hl.but i fun h => hi (hm i h)
  ag := fun k hk ha => by
    obtain ⟨k1, h2, h3, h4, h5⟩ := hl.ag k hk (ha.mono hm)
    refine ⟨k1, h2, fun i hi => ?_, h4, fun i hi => h5 i fun h => hi (hm i h)⟩
    by_cases c : i ∈ l
    · exact h3 i c
    · rw [← hl.but i c, ← h5 i c]; exact ha i hi

/-- The places of a new object's slots. -/
theorem evP_slots {o : Op1} {v : AV} {al : List (Nat × Obj)} {h : Heap} (hc : o.cls = .p) (he : evP G t F o = some (v, al)) : ∀ p ∈ al, p.1 ∈ fp G t h o := by
  cases o <;> simp only [Op1.cls] at hc <;> simp only [evP] at he <;> first
    | contradiction
    | skip
  case qcall f args outs =>
    split at he
    · split at he
      · split at he
        · simp only [Option.some.injEq, Prod.mk.injEq] at he
          obtain ⟨_, rfl⟩ := he
          exact fun p hp => (List.of_mem_zip (show (p.1, p.2) ∈ _ from hp)).1
        · simp at he
      · simp at he
    · simp at he
  all_goals
    repeat' (first
      | (simp only [Option.some.injEq, Prod.mk.injEq] at he; obtain ⟨_, rfl⟩ := he; simp [fp]; done)
      | (simp at he; done)
      | split at he)

theorem ev1_local {o : Op1} {h h1 : Heap} {v : AV} (he : ev1 G F ⟨t, h⟩ o = some (v, h1)) (hb : ∀ f as outs, o ≠ .bcall f as outs) : Local (fun h => ev1 G F ⟨t, h⟩ o) (fp G t h o) h v h1 := by
  cases hc : o.cls with
  | p =>
    simp only [ev1, hc] at he ⊢
    split at he
    · rename_i v' al h2
      split at he
      · rename_i h3 h4
        simp only [Option.some.injEq, Prod.mk.injEq] at he
        obtain ⟨rfl, rfl⟩ := he
        exact local_p (evP_slots hc h2) h4
      · simp at he
    · simp at he
  | r =>
    simp only [ev1, hc] at he ⊢
    split at he
    · rename_i v' h2
      simp only [Option.some.injEq, Prod.mk.injEq] at he
      obtain ⟨rfl, rfl⟩ := he
      refine Local.read (f := fun h => evR G t h o) h2 fun k ha => ?_
      cases o <;> simp only [Op1.cls] at hc <;> first
        | contradiction
        | skip
      case load ag sz x =>
        simp only [evR, fp] at ha ⊢
        cases hx : rho G t x <;> simp only [hx, AV.refs] at ha ⊢
        · rw [ha.getO (by simp)]
        · rw [ha.rowAt (by simp)]
      case b2s x => simp only [evR, fp] at ha ⊢; rw [ha.elems fun i hi => hi]
      case cmpb x y => simp only [evR, fp] at ha ⊢; rw [ha.elems (v := rho G t x) fun i hi => by simp [hi], ha.elems (v := rho G t y) fun i hi => by simp [hi]]
      case ia sz x y =>
        simp only [evR, fp] at ha ⊢
        generalize rho G t x = p at ha ⊢
        generalize rho G t y = z
        cases p <;> cases z <;> first
          | rfl
          | skip
        · rename_i u
          cases u <;> rfl
        · rename_i id0 n0 u
          have e := ha.rowAt (i := id0) (n := n0) (List.mem_singleton.2 rfl)
          cases u <;> first
            | rfl
            | simp [e]
      case len str x => simp only [evR, fp] at ha ⊢; rw [ha.elems fun i hi => hi]
    · simp at he
  | w =>
    simp only [ev1, hc] at he ⊢
    cases o <;> simp only [Op1.cls] at hc <;> first
      | contradiction
      | skip
    case store sz x y =>
      simp only [fp]
      have key : ∀ k, k.length = h.length → AgH (rho G t x).refs h k → h1.length = h.length ∧ ButH (rho G t x).refs h h1 ∧ ∃ k1, evW G t F k (.store sz x y) = some (v, k1) ∧ AgH (rho G t x).refs h1 k1 ∧ k1.length = k.length ∧ ButH (rho G t x).refs k k1 := fun k hk ha => by
        simp only [evW] at he ⊢
        split at he
        · rename_i hcell
          rw [if_pos hcell]
          cases hx : rho G t x <;> simp only [hx, AV.refs] at ha he ⊢ <;> first
            | (simp at he; done)
            | skip
          · rename_i id off
            rw [← ha.getO (List.mem_singleton.2 rfl)]
            split at he
            · rename_i cells hg
              split at he
              · rename_i hle
                simp only [Option.some.injEq, Prod.mk.injEq] at he
                obtain ⟨rfl, rfl⟩ := he
                rw [if_pos hle]
                exact ⟨by simp, set_but (by simp), _, rfl, set_ag ha hk _ _, by simp, set_but (by simp)⟩
              · simp at he
            · simp at he
          · rename_i id n i kk
            rw [← ha.rowAt (List.mem_singleton.2 rfl)]
            split at he
            · rename_i e s old l hg
              split at he
              · rename_i el cs hel hcs
                split at he
                · rename_i hle
                  simp only [Option.some.injEq, Prod.mk.injEq] at he
                  obtain ⟨rfl, rfl⟩ := he
                  rw [if_pos hle]
                  exact ⟨by simp, set_but (by simp), _, rfl, set_ag ha hk _ _, by simp, set_but (by simp)⟩
                · simp at he
              · simp at he
            · simp at he
        · simp at he
      obtain ⟨h2, h3, _⟩ := key h rfl fun _ _ => rfl
      exact ⟨he, h2, h3, fun k hk ha => (key k hk ha).2.2⟩
    case call f as outs => simp only [evW, fp] at he ⊢; exact evCall_local he
    case callv g as outs =>
      simp only [evW, fp] at he ⊢
      cases hg : rho G t g <;> simp only [hg] at he ⊢ <;> first
        | (simp at he; done)
        | (split at he
           · rename_i hlt; simp only [hlt, if_true]; exact evCall_local he
           · simp at he)
    case bcall f as outs => exact absurd rfl (hb f as outs)
    case app s ety sz bytes x y =>
      generalize hl : fp G t h (.app s ety sz bytes x y) = l
      simp only [fp] at hl
      have hs : s ∈ l := by rw [← hl]; simp
      have hx' : ∀ i ∈ (rho G t x).refs, i ∈ l := fun i hi => by rw [← hl]; simp [hi]
      have hy' : ∀ i ∈ (rho G t y).refs, i ∈ l := fun i hi => by rw [← hl]; simp [hi]
      have key : ∀ k, k.length = h.length → AgH l h k → h1.length = h.length ∧ ButH l h h1 ∧ ∃ k1, evW G t F k (.app s ety sz bytes x y) = some (v, k1) ∧ AgH l h1 k1 ∧ k1.length = k.length ∧ ButH l k k1 := fun k hk ha => by
        simp only [evW_app] at he ⊢
        have hsrc : srcE k (rho G t y) = srcE h (rho G t y) := by
          unfold srcE
          split
          · rfl
          · rw [ha.elems hy']
        rw [hsrc]
        split at he
        · rename_i o m hm
          split at he
          · rename_i hsz

            rw [if_pos hsz]
            cases hx : rho G t x <;> simp only [hx] at he ⊢ <;> first
              | (simp at he; done)
              | skip
            · split at he
              · rename_i hemp
                simp only [Option.some.injEq, Prod.mk.injEq] at he
                obtain ⟨rfl, rfl⟩ := he
                rw [if_pos hemp]
                exact ⟨rfl, .refl _ _, k, rfl, ha, rfl, .refl _ _⟩
              · rename_i hemp
                rw [if_neg hemp]
                split at he
                · rename_i hle
                  rw [if_pos hle]
                  split at he
                  · rename_i h' hal
                    simp only [Option.some.injEq, Prod.mk.injEq] at he
                    obtain ⟨rfl, rfl⟩ := he
                    obtain ⟨q1, q2, k1, q3, q4, q5, q6⟩ := alloc_local (l := l) (fun p hp => by simp at hp; rw [hp]; exact hs) hal hk ha
                    exact ⟨q1, q2, k1, by rw [q3], q4, q5, q6⟩
                  · simp at he
                · simp at he
            · rename_i id n
              have hid : id ∈ l := hx' id (by simp [hx, AV.refs])
              rw [← ha.rowAt hid]
              split at he
              · rename_i e2 s2 o' l2 hrow
                split at he
                · rename_i hle
                  simp only [Option.some.injEq, Prod.mk.injEq] at he
                  obtain ⟨rfl, rfl⟩ := he
                  rw [if_pos hle]
                  exact ⟨by simp, set_but hid, _, rfl, set_ag ha hk _ _, by simp, set_but hid⟩
                · simp at he
              · simp at he
          · simp at he
        · simp at he
      obtain ⟨h2, h3, _⟩ := key h rfl fun _ _ => rfl
      exact ⟨he, h2, h3, fun k hk ha => (key k hk ha).2.2⟩
    case appz s ety sz bytes zero x n =>
      generalize hl : fp G t h (.appz s ety sz bytes zero x n) = l
      simp only [fp] at hl
      have hs : s ∈ l := by rw [← hl]; simp
      have key : ∀ k, k.length = h.length → AgH l h k → h1.length = h.length ∧ ButH l h h1 ∧ ∃ k1, evW G t F k (.appz s ety sz bytes zero x n) = some (v, k1) ∧ AgH l h1 k1 ∧ k1.length = k.length ∧ ButH l k k1 := fun k hk ha => by
        simp only [evW] at he ⊢
        split at he
        · rename_i m hm
          split at he
          · rename_i hle

            rw [if_pos hle]
            split at he
            · split at he
              · rename_i hz
                simp only [Option.some.injEq, Prod.mk.injEq] at he
                obtain ⟨rfl, rfl⟩ := he
                rw [if_pos hz]
                exact ⟨rfl, .refl _ _, k, rfl, ha, rfl, .refl _ _⟩
              · rename_i hz
                rw [if_neg hz]
                split at he
                · rename_i h' hal
                  simp only [Option.some.injEq, Prod.mk.injEq] at he
                  obtain ⟨rfl, rfl⟩ := he
                  obtain ⟨q1, q2, k1, q3, q4, q5, q6⟩ := alloc_local (l := l) (fun p hp => by simp at hp; rw [hp]; exact hs) hal hk ha
                  exact ⟨q1, q2, k1, by rw [q3], q4, q5, q6⟩
                · simp at he
            · simp at he
          · simp at he
        · simp at he
      obtain ⟨h2, h3, _⟩ := key h rfl fun _ _ => rfl
      exact ⟨he, h2, h3, fun k hk ha => (key k hk ha).2.2⟩
    case markb x =>
      simp only [fp]
      have key : ∀ k, k.length = h.length → AgH (rho G t x).refs h k → h1.length = h.length ∧ ButH (rho G t x).refs h h1 ∧ ∃ k1, evW G t F k (.markb x) = some (v, k1) ∧ AgH (rho G t x).refs h1 k1 ∧ k1.length = k.length ∧ ButH (rho G t x).refs k k1 := fun k hk ha => by
        simp only [evW] at he ⊢
        cases hx : rho G t x <;> simp only [hx, AV.refs] at ha he ⊢ <;> first
          | (simp at he; done)
          | skip
        rename_i id n
        rw [← ha.rowAt (List.mem_singleton.2 rfl)]
        split at he
        · simp only [Option.some.injEq, Prod.mk.injEq] at he
          obtain ⟨rfl, rfl⟩ := he
          exact ⟨by simp, set_but (by simp), _, rfl, set_ag ha hk _ _, by simp, set_but (by simp)⟩
        · simp at he
      obtain ⟨h2, h3, _⟩ := key h rfl fun _ _ => rfl
      exact ⟨he, h2, h3, fun k hk ha => (key k hk ha).2.2⟩
    case trunc s x hi =>
      generalize hl : fp G t h (.trunc s x hi) = l
      simp only [fp] at hl
      have hs : s ∈ l := by rw [← hl]; simp
      have hx' : ∀ i ∈ (rho G t x).refs, i ∈ l := fun i hi => by rw [← hl]; simp [hi]
      have key : ∀ k, k.length = h.length → AgH l h k → h1.length = h.length ∧ ButH l h h1 ∧ ∃ k1, evW G t F k (.trunc s x hi) = some (v, k1) ∧ AgH l h1 k1 ∧ k1.length = k.length ∧ ButH l k k1 := fun k hk ha => by
        simp only [evW] at he ⊢
        split at he
        · rename_i id n kk i hx hh
          have hid : id ∈ l := hx' id (by simp [hx, AV.refs])

          rw [← ha.rowAt hid]
          split at he
          · rename_i e s2 o l2 hrow
            split at he
            · rename_i hle
              rw [if_pos hle]
              split at he
              · rename_i h' hal
                simp only [Option.some.injEq, Prod.mk.injEq] at he
                obtain ⟨rfl, rfl⟩ := he
                obtain ⟨q1, q2, k1, q3, q4, q5, q6⟩ := alloc_local (l := l) (fun p hp => by simp at hp; rw [hp]; exact hs) hal (by simpa using hk) (set_ag ha hk id (some .dead))
                exact ⟨by simpa using q1, (set_but hid).trans q2, k1, by rw [q3], q4, by simpa using q5, (set_but hid).trans q6⟩
              · simp at he
            · simp at he
          · simp at he
        · rename_i kk i hx hh
          split at he
          · rename_i hz
            simp only [Option.some.injEq, Prod.mk.injEq] at he
            obtain ⟨rfl, rfl⟩ := he
            simp only
            rw [if_pos hz]
            exact ⟨by simp, .refl _ _, k, rfl, ha, rfl, .refl _ _⟩
          · simp at he
        · simp at he
      obtain ⟨h2, h3, _⟩ := key h rfl fun _ _ => rfl
      exact ⟨he, h2, h3, fun k hk ha => (key k hk ha).2.2⟩

end
end Go.Ev
