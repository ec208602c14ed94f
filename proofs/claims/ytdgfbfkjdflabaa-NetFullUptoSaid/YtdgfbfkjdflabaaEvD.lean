/-
  What an operation looks at, and what it touches: two operations that have nothing in common may be swapped.
-/
import Derived.Test.YtdgfbfkjdflabaaEvC
import Derived.Orders
import Derived.Deep.LoopGhost
set_option linter.unusedSimpArgs false
set_option linter.unusedVariables false
namespace Go.Ev
def O.tmps : O → List Nat
 | .t i => [i]
 | _ => []
def oTmps : Option O → List Nat
 | some x => x.tmps
 | none => []
def Op1.tmps : Op1 → List Nat
 | .mv x => x.tmps
 | .cn x => x.tmps
 | .pick c a b => c.tmps ++ a.tmps ++ b.tmps
 | .new _ _ => []
 | .box _ _ x => x.tmps
 | .build _ ps => ps.flatMap fun p => p.2.2.tmps
 | .litd _ _ _ ps => ps.flatMap fun p => p.2.tmps
 | .lit _ _ _ _ _ ps => ps.flatMap fun p => p.2.tmps
 | .nilc x => x.tmps
 | .bin _ _ x y => x.tmps ++ y.tmps
 | .un _ x => x.tmps
 | .conv _ x => x.tmps
 | .s2b x => x.tmps
 | .mki _ x => x.tmps
 | .mkf _ cs => cs.flatMap O.tmps
 | .make _ _ _ _ _ x y => x.tmps ++ y.tmps
 | .slice _ x lo hi m => x.tmps ++ oTmps lo ++ oTmps hi ++ oTmps m
 | .slices x lo hi => x.tmps ++ oTmps lo ++ oTmps hi
 | .fa _ x => x.tmps
 | .fld _ _ _ x => x.tmps
 | .iap _ _ x y => x.tmps ++ y.tmps
 | .ix _ _ _ x y => x.tmps ++ y.tmps
 | .ixs x y => x.tmps ++ y.tmps
 | .ext _ x => x.tmps
 | .mx x y => x.tmps ++ y.tmps
 | .mn x y => x.tmps ++ y.tmps
 | .capn x => x.tmps
 | .qcall _ as _ => as.flatMap O.tmps
 | .load _ _ x => x.tmps
 | .b2s x => x.tmps
 | .cmpb x y => x.tmps ++ y.tmps
 | .eqp _ _ x y => x.tmps ++ y.tmps
 | .ia _ x y => x.tmps ++ y.tmps
 | .len _ x => x.tmps
 | .store _ x y => x.tmps ++ y.tmps
 | .call _ as _ => as.flatMap O.tmps
 | .callv g as _ => g.tmps ++ as.flatMap O.tmps
 | .bcall _ as _ => as.flatMap O.tmps
 | .app _ _ _ _ x y => x.tmps ++ y.tmps
 | .appz _ _ _ _ _ x y => x.tmps ++ y.tmps
 | .trunc _ x y => x.tmps ++ y.tmps
 | .markb x => x.tmps
 | .trap => []
def AgT (l : List Nat) (t u : List AV) : Prop := ∀ i ∈ l, t.getD i .undef = u.getD i .undef
section
variable {G : Cf} {F : FnEv} {t u : List AV}
theorem AgT.left {l m : List Nat} (h : AgT (l ++ m) t u) : AgT l t u := fun i hi => h i (by simp [hi])
theorem AgT.right {l m : List Nat} (h : AgT (l ++ m) t u) : AgT m t u := fun i hi => h i (by simp [hi])
theorem rho_ag {x : O} (h : AgT x.tmps t u) : rho G t x = rho G u x := by
 cases x <;> simp only [rho]
 exact h _ (by simp [O.tmps])
theorem map_ag {l : List O} (h : AgT (l.flatMap O.tmps) t u) : l.map (rho G t) = l.map (rho G u) :=
 List.map_congr_left fun x hx => rho_ag fun i hi => h i (List.mem_flatMap.2 ⟨x, hx, hi⟩)
theorem bound_ag {n : Nat} {x : O} (h : AgT x.tmps t u) : bound G t n x = bound G u n x := by
 simp only [bound, rho_ag h]
theorem bounds_ag {n : Nat} {lo hi mx : Option O} (h1 : AgT (oTmps lo) t u) (h2 : AgT (oTmps hi) t u) (h3 : AgT (oTmps mx) t u) : bounds G t n lo hi mx = bounds G u n lo hi mx := by
 have e1 : ∀ (x : O), lo = some x → ∀ n, bound G t n x = bound G u n x := fun x hx n => bound_ag (by subst hx; exact h1)
 have e2 : ∀ (x : O), hi = some x → ∀ n, bound G t n x = bound G u n x := fun x hx n => bound_ag (by subst hx; exact h2)
 have e3 : ∀ (x : O), mx = some x → ∀ n, bound G t n x = bound G u n x := fun x hx n => bound_ag (by subst hx; exact h3)
 cases lo <;> cases hi <;> cases mx <;> simp only [bounds] <;> first
  | rfl
  | simp [e1 _ rfl, e2 _ rfl, e3 _ rfl]
  | simp [e1 _ rfl, e2 _ rfl]
  | simp [e1 _ rfl, e3 _ rfl]
  | simp [e2 _ rfl, e3 _ rfl]
  | simp [e1 _ rfl]
  | simp [e2 _ rfl]
  | simp [e3 _ rfl]
theorem partsA_ag {l : List (Nat × Nat × O)} (h : AgT (l.flatMap fun p => p.2.2.tmps) t u) : partsA G t l = partsA G u l := by
 induction l with
 | nil => rfl
 | cons p l ih =>
  obtain ⟨off, n, x⟩ := p
  simp only [List.flatMap_cons] at h
  simp only [partsA, ih h.right, rho_ag h.left]
theorem partsE_ag {sz n : Nat} {l : List (Nat × O)} (h : AgT (l.flatMap fun p => p.2.tmps) t u) : partsE G t sz n l = partsE G u sz n l := by
 induction l with
 | nil => rfl
 | cons p l ih =>
  obtain ⟨off, x⟩ := p
  simp only [List.flatMap_cons] at h
  simp only [partsE, ih h.right, rho_ag h.left]
theorem isOldParts_ag {l : List (Nat × O)} (h : AgT (l.flatMap fun p => p.2.tmps) t u) : isOldParts G t l = isOldParts G u l := by
 induction l with
 | nil => rfl
 | cons p l ih =>
  obtain ⟨off, x⟩ := p
  simp only [List.flatMap_cons] at h
  simp only [isOldParts, ih h.right, rho_ag h.left]
theorem evP_ag {o : Op1} (h : AgT o.tmps t u) : evP G t F o = evP G u F o := by
 cases o <;> simp only [Op1.tmps] at h <;> simp only [evP] <;> first
  | rfl
  | simp only [rho_ag h]
  | simp only [rho_ag h.left, rho_ag h.right]
  | simp only [rho_ag h.left.left, rho_ag h.left.right, rho_ag h.right]
  | simp only [partsA_ag h]
  | simp only [partsE_ag h, isOldParts_ag h]
  | simp only [map_ag h]
  | simp only [rho_ag h.left.left.left, bounds_ag h.left.left.right h.left.right h.right]
  | (simp only [rho_ag h.left.left, bounds_ag (mx := none) h.left.right h.right (fun i hi => by simp [oTmps] at hi)])
theorem evR_ag {o : Op1} {h0 : Heap} (h : AgT o.tmps t u) : evR G t h0 o = evR G u h0 o := by
 cases o <;> simp only [Op1.tmps] at h <;> simp only [evR] <;> first
  | rfl
  | simp only [rho_ag h]
  | simp only [rho_ag h.left, rho_ag h.right]
theorem evW_ag {o : Op1} {h0 : Heap} (h : AgT o.tmps t u) : evW G t F h0 o = evW G u F h0 o := by
 cases o <;> simp only [Op1.tmps] at h <;> simp only [evW] <;> first
  | rfl
  | simp only [rho_ag h]
  | simp only [rho_ag h.left, rho_ag h.right]
  | simp only [map_ag h]
  | simp only [rho_ag h.left, map_ag h.right]
theorem ev1_ag {o : Op1} {h0 : Heap} (h : AgT o.tmps t u) : ev1 G F ⟨t, h0⟩ o = ev1 G F ⟨u, h0⟩ o := by
 simp only [ev1, evP_ag h, evR_ag h, evW_ag h]
def AgH (l : List Nat) (h k : Heap) : Prop := ∀ i ∈ l, h[i]? = k[i]?
def ButH (l : List Nat) (h k : Heap) : Prop := ∀ i, i ∉ l → h[i]? = k[i]?
theorem AgH.getO {l : List Nat} {h k : Heap} (ha : AgH l h k) {i : Nat} (hi : i ∈ l) : getO h i = getO k i := by
 simp only [Ev.getO, List.getD_eq_getElem?_getD, ha i hi]
theorem AgH.mono {l m : List Nat} {h k : Heap} (ha : AgH l h k) (hm : ∀ i ∈ m, i ∈ l) : AgH m h k := fun i hi => ha i (hm i hi)
theorem AgH.rowAt {l : List Nat} {h k : Heap} (ha : AgH l h k) {i n : Nat} (hi : i ∈ l) : rowAt h i n = rowAt k i n := by
 simp only [Ev.rowAt, ha.getO hi]
theorem AgH.elems {l : List Nat} {h k : Heap} {v : AV} (ha : AgH l h k) (hi : ∀ i ∈ v.refs, i ∈ l) : elems h v = elems k v := by
 cases v <;> simp only [Ev.elems]
 rw [ha.rowAt (hi _ (by simp [AV.refs]))]
theorem AgH.viewL {l : List Nat} {h k : Heap} (ha : AgH l h k) : ∀ {as : List AV}, (∀ i ∈ refsL as, i ∈ l) → viewL k as = viewL h as
 | [], _ => rfl
 | a :: as, hi => by
  have h1 : view k a = view h a := by
   cases a <;> simp only [view]
   rw [ha.rowAt (hi _ (by simp [refsL, AV.refs]))]
  have h2 := AgH.viewL ha (as := as) fun i hj => hi i (by simp [refsL, hj])
  simp only [Ev.viewL, h1, h2]
def srcE (h : Heap) (v : AV) : Option (Bool × List (List C)) := match v with
 | .s (.string s) => some (false, eB s.data.toList)
 | v => elems h v
theorem evW_app {h : Heap} {slot ety sz bytes : Nat} {x y : O} : evW G t F h (.app slot ety sz bytes x y) = match srcE h (rho G t y) with
  | some (o, m) => if szOk sz m then (match rho G t x with
   | .nilsl => if m.isEmpty then some (.nilsl, h) else if m.length * bytes ≤ 140737488355328 ∧ m.length ≤ 140737488355328 then (match alloc [(slot, .row ety sz (yO bytes o m) false m)] h with
    | some h' => some (.row slot m.length, h')
    | none => none) else none
   | .row id n => match rowAt h id n with
    | some (e, s, o', false, l) => if e = ety ∧ s = sz ∧ (l.length + m.length) * bytes ≤ 140737488355328 ∧ l.length + m.length ≤ 140737488355328 then some (.row id (l ++ m).length, h.set id (some (.row e s (o' || yO bytes o m) false (l ++ m)))) else none
    | _ => none
   | _ => none) else none
  | none => none := rfl
structure Local (f : Heap → Option (AV × Heap)) (l : List Nat) (h : Heap) (v : AV) (h1 : Heap) : Prop where
 run : f h = some (v, h1)
 len : h1.length = h.length
 but : ButH l h h1
 ag : ∀ k, k.length = h.length → AgH l h k → ∃ k1, f k = some (v, k1) ∧ AgH l h1 k1 ∧ k1.length = k.length ∧ ButH l k k1
theorem set_but {l : List Nat} {h : Heap} {i : Nat} {o : Option Obj} (hi : i ∈ l) : ButH l h (h.set i o) := fun j hj => by
 rw [List.getElem?_set_ne (fun e => by subst e; exact hj hi)]
theorem set_ag {l : List Nat} {h k : Heap} (ha : AgH l h k) (hl : k.length = h.length) (i : Nat) (o : Option Obj) : AgH l (h.set i o) (k.set i o) := fun j hj => by
 by_cases c : i = j
 ·subst c
  by_cases hlt : i < h.length
  ·rw [List.getElem?_set_self hlt, List.getElem?_set_self (by omega)]
  ·rw [List.getElem?_eq_none (by simp; omega), List.getElem?_eq_none (by simp; omega)]
 ·rw [List.getElem?_set_ne c, List.getElem?_set_ne c]; exact ha j hj
theorem ButH.refl (l : List Nat) (h : Heap) : ButH l h h := fun _ _ => rfl
theorem ButH.trans {l : List Nat} {h k m : Heap} (a : ButH l h k) (b : ButH l k m) : ButH l h m := fun i hi => (a i hi).trans (b i hi)
theorem alloc_local : ∀ {al : List (Nat × Obj)} {l : List Nat} {h h1 k : Heap}, (∀ p ∈ al, p.1 ∈ l) → alloc al h = some h1 → k.length = h.length → AgH l h k →
  h1.length = h.length ∧ ButH l h h1 ∧ ∃ k1, alloc al k = some k1 ∧ AgH l h1 k1 ∧ k1.length = k.length ∧ ButH l k k1
 | [], l, h, h1, k, _, he, hl, ha => by
  simp only [alloc, Option.some.injEq] at he
  subst he
  exact ⟨rfl, .refl _ _, k, rfl, ha, rfl, .refl _ _⟩
 | (i, o) :: r, l, h, h1, k, hin, he, hl, ha => by
  have hi : i ∈ l := hin (i, o) (by simp)
  simp only [alloc] at he ⊢
  split at he
  ·rename_i hn
   obtain ⟨h2, h3, k1, h4, h5, h6, h7⟩ := alloc_local (l := l) (k := k.set i (some o)) (fun p hp => hin p (by simp [hp])) he (by simpa using hl) (set_ag ha hl i _)
   refine ⟨by simpa using h2, (set_but hi).trans h3, k1, ?_, h5, by simpa using h6, (set_but hi).trans h7⟩
   rw [← ha i hi, hn]
   exact h4
  ·simp at he
theorem local_p {al : List (Nat × Obj)} {l : List Nat} {h h1 : Heap} {v : AV} (hin : ∀ p ∈ al, p.1 ∈ l) (he : alloc al h = some h1) :
  Local (fun h => match alloc al h with | some h => some (v, h) | none => none) l h v h1 := by
 obtain ⟨h2, h3, _⟩ := alloc_local (k := h) hin he rfl fun _ _ => rfl
 refine ⟨by simp [he], h2, h3, fun k hk ha => ?_⟩
 obtain ⟨_, _, k1, h4, h5, h6, h7⟩ := alloc_local hin he hk ha
 exact ⟨k1, by simp [h4], h5, h6, h7⟩
theorem Local.read {f : Heap → Option AV} {l : List Nat} {h : Heap} {v : AV} (he : f h = some v) (hf : ∀ k, AgH l h k → f k = f h) : Local (fun h => match f h with | some v => some (v, h) | none => none) l h v h :=
 ⟨by simp [he], rfl, .refl _ _, fun k hk ha => ⟨k, by simp [hf k ha, he], ha, rfl, .refl _ _⟩⟩
theorem putAll_local : ∀ {ids : List Nat} {os : List Obj} {l : List Nat} {h k : Heap}, (∀ i ∈ ids, i ∈ l) → k.length = h.length → AgH l h k →
  (putAll ids os h).length = h.length ∧ ButH l h (putAll ids os h) ∧ AgH l (putAll ids os h) (putAll ids os k)
 | [], os, l, h, k, _, hl, ha => ⟨rfl, .refl _ _, ha⟩
 | i :: is, [], l, h, k, _, hl, ha => ⟨rfl, .refl _ _, ha⟩
 | i :: is, o :: os, l, h, k, hin, hl, ha => by
  simp only [putAll]
  obtain ⟨h1, h2, h3⟩ := putAll_local (ids := is) (os := os) (l := l) (h := h.set i (some o)) (k := k.set i (some o)) (fun j hj => hin j (by simp [hj])) (by simpa using hl) (set_ag ha hl i _)
  exact ⟨by simpa using h1, (set_but (hin i (by simp))).trans h2, h3⟩
theorem getAll_local {l : List Nat} {h k : Heap} (ha : AgH l h k) : ∀ {ids : List Nat}, (∀ i ∈ ids, i ∈ l) → getAll k ids = getAll h ids
 | [], _ => rfl
 | i :: is, hin => by
  simp only [getAll, ha.getO (hin i (by simp)), getAll_local (ids := is) ha fun j hj => hin j (by simp [hj])]
theorem reachN_sub : ∀ (n : Nat) (h : Heap) (w seen : List Nat), ∀ i ∈ seen, i ∈ reachN n h w seen
 | 0, _, _, _, i, hi => hi
 | n + 1, _, [], _, i, hi => hi
 | n + 1, h, j :: w, seen, i, hi => by
  simp only [reachN]
  split
  ·exact reachN_sub n h w seen i hi
  ·exact reachN_sub n h _ _ i (by simp [hi])
theorem reachN_local {h k : Heap} : ∀ (n : Nat) (w seen : List Nat), AgH (reachN n h w seen) h k → reachN n k w seen = reachN n h w seen
 | 0, _, _, _ => rfl
 | n + 1, [], _, _ => rfl
 | n + 1, j :: w, seen, ha => by
  simp only [reachN] at ha ⊢
  split
  ·rename_i hc
   rw [if_pos hc] at ha
   exact reachN_local n w seen ha
  ·rename_i hc
   rw [if_neg hc] at ha
   have hj : j ∈ reachN n h (refsO h j ++ w) (seen ++ [j]) := reachN_sub n h _ _ j (by simp)
   have : refsO k j = refsO h j := by simp only [refsO, ha.getO hj]
   rw [this]
   exact reachN_local n _ _ ha
theorem closed_local {h k : Heap} {roots ids : List Nat} (ha : AgH ids h k) : closed k roots ids = closed h roots ids := by
 simp only [closed]
 congr 1
 rw [Bool.eq_iff_iff, List.all_eq_true, List.all_eq_true]
 constructor <;> intro hh i hi
 ·have := hh i hi
  simpa only [refsO, ha.getO hi] using this
 ·have := hh i hi
  simpa only [refsO, ha.getO hi] using this
theorem evCall_local {f : Nat} {args : List AV} {outs : List Nat} {h h1 : Heap} {v : AV} (he : evCall F h f args outs = some (v, h1)) :
  Local (fun h => evCall F h f args outs) (reach h (refsL args) ++ outs) h v h1 := by
 have he0 := he
 generalize hl : reach h (refsL args) ++ outs = l
 generalize hids : reach h (refsL args) = ids at hl he
 have hil : ∀ i ∈ ids, i ∈ l := fun i hi => by rw [← hl]; simp [hi]
 have hol : ∀ i ∈ outs, i ∈ l := fun i hi => by rw [← hl]; simp [hi]
 have hr : ∀ k, AgH l h k → reach k (refsL args) = ids := fun k ha => by
  rw [← hids]
  exact reachN_local 100 _ _ (ha.mono fun i hi => hil i (by rw [← hids]; exact hi))
 have key : ∀ k, k.length = h.length → AgH l h k → h1.length = h.length ∧ ButH l h h1 ∧ ∃ k1, evCall F k f args outs = some (v, k1) ∧ AgH l h1 k1 ∧ k1.length = k.length ∧ ButH l k k1 := fun k hk ha => by
  simp only [evCall, hr k ha]
  simp only [evCall, hids] at he
  rw [closed_local (ha.mono hil), getAll_local ha hil]
  split at he
  ·rename_i hcn
   rw [if_pos hcn]
   split at he
   ·rename_i os hos
    split at he
    ·rename_i rs os' hF
     have hol2 : ∀ i ∈ fitO h outs os'.length ids.length, i ∈ l := fun i hi => hol i (List.mem_filter.1 (List.mem_of_mem_take hi)).1
     have hfk : fitO k outs os'.length ids.length = fitO h outs os'.length ids.length := by
      unfold fitO
      congr 1
      exact List.filter_congr fun i hi => by rw [ha.getO (hol i hi)]
     rw [hfk]
     generalize fitO h outs os'.length ids.length = outs2 at he hol2 ⊢
     split at he
     ·rename_i hlen
      rw [if_pos hlen]
      split at he
      ·rename_i h'' hal
       simp only [Option.some.injEq, Prod.mk.injEq] at he
       obtain ⟨e1, e2⟩ := he
       subst e1 e2
       generalize hfx : (Obj.ren fun i => (ids ++ outs2).getD i 0) = fx at hal ⊢
       obtain ⟨p1, p2, p3⟩ := putAll_local (os := (os'.take ids.length).map fx) hil hk ha
       obtain ⟨p4, p5, _⟩ := putAll_local (h := k) (k := k) (os := (os'.take ids.length).map fx) (l := l) hil rfl fun _ _ => rfl
       obtain ⟨q1, q2, k1, q3, q4, q5, q6⟩ := alloc_local (l := l) (k := putAll ids ((os'.take ids.length).map fx) k) (fun p hp => hol2 _ (List.of_mem_zip (show (p.1, p.2) ∈ _ from hp)).1) hal (by rw [p4, p1, hk]) p3
       refine ⟨by rw [q1, p1], p2.trans q2, k1, ?_, q4, by rw [q5, p4], p5.trans q6⟩
       rw [q3]
      ·simp at he
     ·simp at he
    ·simp at he
   ·simp at he
  ·simp at he
 obtain ⟨h2, h3, _⟩ := key h rfl fun _ _ => rfl
 exact ⟨he0, h2, h3, fun k hk ha => (key k hk ha).2.2⟩
theorem Local.mono {f : Heap → Option (AV × Heap)} {l m : List Nat} {h h1 : Heap} {v : AV} (hl : Local f l h v h1) (hm : ∀ i ∈ l, i ∈ m) : Local f m h v h1 where
 run := hl.run
 len := hl.len
 but := fun i hi => hl.but i fun h => hi (hm i h)
 ag := fun k hk ha => by
  obtain ⟨k1, h2, h3, h4, h5⟩ := hl.ag k hk (ha.mono hm)
  refine ⟨k1, h2, fun i hi => ?_, h4, fun i hi => h5 i fun h => hi (hm i h)⟩
  by_cases c : i ∈ l
  ·exact h3 i c
  ·rw [← hl.but i c, ← h5 i c]; exact ha i hi
theorem evP_slots {o : Op1} {v : AV} {al : List (Nat × Obj)} {h : Heap} (hc : o.cls = .p) (he : evP G t F o = some (v, al)) : ∀ p ∈ al, p.1 ∈ fp G t h o := by
 cases o <;> simp only [Op1.cls] at hc <;> simp only [evP] at he <;> first
  | contradiction
  | skip
 case qcall f args outs =>
  split at he
  ·split at he
   ·split at he
    ·simp only [Option.some.injEq, Prod.mk.injEq] at he
     obtain ⟨_, rfl⟩ := he
     exact fun p hp => (List.of_mem_zip (show (p.1, p.2) ∈ _ from hp)).1
    ·simp at he
   ·simp at he
  ·simp at he
 all_goals
  repeat' (first
   | (simp only [Option.some.injEq, Prod.mk.injEq] at he; obtain ⟨_, rfl⟩ := he; simp [fp]; done)
   | (simp at he; done)
   | split at he)
theorem ev1_local {o : Op1} {h h1 : Heap} {v : AV} (he : ev1 G F ⟨t, h⟩ o = some (v, h1)) : Local (fun h => ev1 G F ⟨t, h⟩ o) (fp G t h o) h v h1 := by
  cases hc : o.cls with
  | p =>
    simp only [ev1, hc] at he ⊢
    split at he
    · rename_i v' al h2
      split at he
      · rename_i h3 h4
        simp only [Option.some.injEq, Prod.mk.injEq] at he
        obtain ⟨rfl, rfl⟩ := he
        exact local_p (evP_slots hc h2) h4
      · simp at he
    · simp at he
  | r =>
    simp only [ev1, hc] at he ⊢
    split at he
    · rename_i v' h2
      simp only [Option.some.injEq, Prod.mk.injEq] at he
      obtain ⟨rfl, rfl⟩ := he
      refine Local.read (f := fun h => evR G t h o) h2 fun k ha => ?_
      cases o <;> simp only [Op1.cls] at hc <;> first
        | contradiction
        | skip
      case load ag sz x =>
        simp only [evR, fp] at ha ⊢
        cases hx : rho G t x <;> simp only [hx, AV.refs] at ha ⊢
        · rw [ha.getO (by simp)]
        · rw [ha.rowAt (by simp)]
      case b2s x => simp only [evR, fp] at ha ⊢; rw [ha.elems fun i hi => hi]
      case cmpb x y => simp only [evR, fp] at ha ⊢; rw [ha.elems (v := rho G t x) fun i hi => by simp [hi], ha.elems (v := rho G t y) fun i hi => by simp [hi]]
      case eqp ne tp x y =>
        simp only [evR, fp] at ha ⊢
        generalize rho G t x = p at ha ⊢
        generalize rho G t y = z at ha ⊢
        cases p <;> first
          | rfl
          | skip
        rename_i e q
        cases q <;> first
          | rfl
          | skip
        rename_i i o
        cases z <;> first
          | rfl
          | skip
        rename_i u q2
        cases q2 <;> first
          | rfl
          | skip
        simp only
        rw [ha.getO (by simp [AV.refs])]
      case ia sz x y =>
        simp only [evR, fp] at ha ⊢
        generalize rho G t x = p at ha ⊢
        generalize rho G t y = z
        cases p <;> cases z <;> first
          | rfl
          | skip
        · rename_i u
          cases u <;> rfl
        · rename_i id0 n0 u
          have e := ha.rowAt (i := id0) (n := n0) (List.mem_singleton.2 rfl)
          cases u <;> first
            | rfl
            | simp [e]
      case len str x => simp only [evR, fp] at ha ⊢; rw [ha.elems fun i hi => hi]
    · simp at he
  | w =>
    simp only [ev1, hc] at he ⊢
    cases o <;> simp only [Op1.cls] at hc <;> first
      | contradiction
      | skip
    case store sz x y =>
      simp only [fp]
      have key : ∀ k, k.length = h.length → AgH (rho G t x).refs h k → h1.length = h.length ∧ ButH (rho G t x).refs h h1 ∧ ∃ k1, evW G t F k (.store sz x y) = some (v, k1) ∧ AgH (rho G t x).refs h1 k1 ∧ k1.length = k.length ∧ ButH (rho G t x).refs k k1 := fun k hk ha => by
        simp only [evW] at he ⊢
        split at he
        · rename_i hcell
          rw [if_pos hcell]
          cases hx : rho G t x <;> simp only [hx, AV.refs] at ha he ⊢ <;> first
            | (simp at he; done)
            | skip
          · rename_i id off
            rw [← ha.getO (List.mem_singleton.2 rfl)]
            split at he
            · rename_i cells hg
              split at he
              · rename_i hle
                simp only [Option.some.injEq, Prod.mk.injEq] at he
                obtain ⟨rfl, rfl⟩ := he
                rw [if_pos hle]
                exact ⟨by simp, set_but (by simp), _, rfl, set_ag ha hk _ _, by simp, set_but (by simp)⟩
              · simp at he
            · simp at he
          · rename_i id n i kk
            rw [← ha.rowAt (List.mem_singleton.2 rfl)]
            split at he
            · rename_i e s old l hg
              split at he
              · rename_i el cs hel hcs
                split at he
                · rename_i hle
                  simp only [Option.some.injEq, Prod.mk.injEq] at he
                  obtain ⟨rfl, rfl⟩ := he
                  rw [if_pos hle]
                  exact ⟨by simp, set_but (by simp), _, rfl, set_ag ha hk _ _, by simp, set_but (by simp)⟩
                · simp at he
              · simp at he
            · simp at he
        · simp at he
      obtain ⟨h2, h3, _⟩ := key h rfl fun _ _ => rfl
      exact ⟨he, h2, h3, fun k hk ha => (key k hk ha).2.2⟩
    case call f as outs => simp only [evW, fp] at he ⊢; exact evCall_local he
    case callv g as outs =>
      simp only [evW, fp] at he ⊢
      cases hg : rho G t g <;> simp only [hg] at he ⊢ <;> first
        | (simp at he; done)
        | (split at he
           · rename_i hlt; simp only [hlt, if_true]; exact evCall_local he
           · simp at he)
    case bcall f as outs =>
      generalize hl : fp G t h (.bcall f as outs) = l
      simp only [fp] at hl
      have ho' : ∀ i ∈ outs, i ∈ l := fun i hi => by rw [← hl]; simp [hi]
      have ha' : ∀ i ∈ refsL (as.map (rho G t)), i ∈ l := fun i hi => by rw [← hl]; simp [hi]
      have key : ∀ k, k.length = h.length → AgH l h k → h1.length = h.length ∧ ButH l h h1 ∧ ∃ k1, evW G t F k (.bcall f as outs) = some (v, k1) ∧ AgH l h1 k1 ∧ k1.length = k.length ∧ ButH l k k1 := fun k hk ha => by
        simp only [evW] at he ⊢
        rw [ha.viewL ha']
        cases h2 : viewL h (as.map (rho G t)) with
        | none => rw [h2] at he; cases he
        | some as2 =>
          simp only [h2] at he ⊢
          by_cases hem : (refsL as2).isEmpty = true
          · rw [if_pos hem] at he ⊢
            cases h3 : F f (ageL true as2) [] with
            | none => rw [h3] at he; cases he
            | some p =>
              obtain ⟨rs, os⟩ := p
              simp only [h3] at he ⊢
              by_cases hc : os.length = outs.length ∧ isOldL rs = false ∧ os.all scRow = true
              · rw [if_pos hc] at he ⊢
                cases h4 : alloc (outs.zip (os.map (Obj.ren (fun i => outs.getD i 0)))) h with
                | none => rw [h4] at he; cases he
                | some h' =>
                  simp only [h4, Option.some.injEq, Prod.mk.injEq] at he
                  obtain ⟨rfl, rfl⟩ := he
                  obtain ⟨q1, q2, k1, q3, q4, q5, q6⟩ := alloc_local (l := l) (fun p hp => ho' _ (List.of_mem_zip (show (p.1, p.2) ∈ _ from hp)).1) h4 hk ha
                  exact ⟨q1, q2, k1, by rw [q3], q4, q5, q6⟩
              · rw [if_neg hc] at he; simp at he
          · rw [if_neg hem] at he; simp at he
      obtain ⟨h2, h3, _⟩ := key h rfl fun _ _ => rfl
      exact ⟨he, h2, h3, fun k hk ha => (key k hk ha).2.2⟩
    case app s ety sz bytes x y =>
      generalize hl : fp G t h (.app s ety sz bytes x y) = l
      simp only [fp] at hl
      have hs : s ∈ l := by rw [← hl]; simp
      have hx' : ∀ i ∈ (rho G t x).refs, i ∈ l := fun i hi => by rw [← hl]; simp [hi]
      have hy' : ∀ i ∈ (rho G t y).refs, i ∈ l := fun i hi => by rw [← hl]; simp [hi]
      have key : ∀ k, k.length = h.length → AgH l h k → h1.length = h.length ∧ ButH l h h1 ∧ ∃ k1, evW G t F k (.app s ety sz bytes x y) = some (v, k1) ∧ AgH l h1 k1 ∧ k1.length = k.length ∧ ButH l k k1 := fun k hk ha => by
        simp only [evW_app] at he ⊢
        have hsrc : srcE k (rho G t y) = srcE h (rho G t y) := by
          unfold srcE
          split
          · rfl
          · rw [ha.elems hy']
        rw [hsrc]
        split at he
        · rename_i o m hm
          split at he
          · rename_i hsz
            rw [if_pos hsz]
            cases hx : rho G t x <;> simp only [hx] at he ⊢ <;> first
              | (simp at he; done)
              | skip
            · split at he
              · rename_i hemp
                simp only [Option.some.injEq, Prod.mk.injEq] at he
                obtain ⟨rfl, rfl⟩ := he
                rw [if_pos hemp]
                exact ⟨rfl, .refl _ _, k, rfl, ha, rfl, .refl _ _⟩
              · rename_i hemp
                rw [if_neg hemp]
                split at he
                · rename_i hle
                  rw [if_pos hle]
                  split at he
                  · rename_i h' hal
                    simp only [Option.some.injEq, Prod.mk.injEq] at he
                    obtain ⟨rfl, rfl⟩ := he
                    obtain ⟨q1, q2, k1, q3, q4, q5, q6⟩ := alloc_local (l := l) (fun p hp => by simp at hp; rw [hp]; exact hs) hal hk ha
                    exact ⟨q1, q2, k1, by rw [q3], q4, q5, q6⟩
                  · simp at he
                · simp at he
            · rename_i id n
              have hid : id ∈ l := hx' id (by simp [hx, AV.refs])
              rw [← ha.rowAt hid]
              split at he
              · rename_i e2 s2 o' l2 hrow
                split at he
                · rename_i hle
                  simp only [Option.some.injEq, Prod.mk.injEq] at he
                  obtain ⟨rfl, rfl⟩ := he
                  rw [if_pos hle]
                  exact ⟨by simp, set_but hid, _, rfl, set_ag ha hk _ _, by simp, set_but hid⟩
                · simp at he
              · simp at he
          · simp at he
        · simp at he
      obtain ⟨h2, h3, _⟩ := key h rfl fun _ _ => rfl
      exact ⟨he, h2, h3, fun k hk ha => (key k hk ha).2.2⟩
    case appz s ety sz bytes zero x n =>
      generalize hl : fp G t h (.appz s ety sz bytes zero x n) = l
      simp only [fp] at hl
      have hs : s ∈ l := by rw [← hl]; simp
      have key : ∀ k, k.length = h.length → AgH l h k → h1.length = h.length ∧ ButH l h h1 ∧ ∃ k1, evW G t F k (.appz s ety sz bytes zero x n) = some (v, k1) ∧ AgH l h1 k1 ∧ k1.length = k.length ∧ ButH l k k1 := fun k hk ha => by
        simp only [evW] at he ⊢
        split at he
        · rename_i m hm
          split at he
          · rename_i hle
            rw [if_pos hle]
            split at he
            · split at he
              · rename_i hz
                simp only [Option.some.injEq, Prod.mk.injEq] at he
                obtain ⟨rfl, rfl⟩ := he
                rw [if_pos hz]
                exact ⟨rfl, .refl _ _, k, rfl, ha, rfl, .refl _ _⟩
              · rename_i hz
                rw [if_neg hz]
                split at he
                · rename_i h' hal
                  simp only [Option.some.injEq, Prod.mk.injEq] at he
                  obtain ⟨rfl, rfl⟩ := he
                  obtain ⟨q1, q2, k1, q3, q4, q5, q6⟩ := alloc_local (l := l) (fun p hp => by simp at hp; rw [hp]; exact hs) hal hk ha
                  exact ⟨q1, q2, k1, by rw [q3], q4, q5, q6⟩
                · simp at he
            · simp at he
          · simp at he
        · simp at he
      obtain ⟨h2, h3, _⟩ := key h rfl fun _ _ => rfl
      exact ⟨he, h2, h3, fun k hk ha => (key k hk ha).2.2⟩
    case markb x =>
      simp only [fp]
      have key : ∀ k, k.length = h.length → AgH (rho G t x).refs h k → h1.length = h.length ∧ ButH (rho G t x).refs h h1 ∧ ∃ k1, evW G t F k (.markb x) = some (v, k1) ∧ AgH (rho G t x).refs h1 k1 ∧ k1.length = k.length ∧ ButH (rho G t x).refs k k1 := fun k hk ha => by
        simp only [evW] at he ⊢
        cases hx : rho G t x <;> simp only [hx, AV.refs] at ha he ⊢ <;> first
          | (simp at he; done)
          | skip
        rename_i id n
        rw [← ha.rowAt (List.mem_singleton.2 rfl)]
        split at he
        · simp only [Option.some.injEq, Prod.mk.injEq] at he
          obtain ⟨rfl, rfl⟩ := he
          exact ⟨by simp, set_but (by simp), _, rfl, set_ag ha hk _ _, by simp, set_but (by simp)⟩
        · simp at he
      obtain ⟨h2, h3, _⟩ := key h rfl fun _ _ => rfl
      exact ⟨he, h2, h3, fun k hk ha => (key k hk ha).2.2⟩
    case trunc s x hi =>
      generalize hl : fp G t h (.trunc s x hi) = l
      simp only [fp] at hl
      have hs : s ∈ l := by rw [← hl]; simp
      have hx' : ∀ i ∈ (rho G t x).refs, i ∈ l := fun i hi => by rw [← hl]; simp [hi]
      have key : ∀ k, k.length = h.length → AgH l h k → h1.length = h.length ∧ ButH l h h1 ∧ ∃ k1, evW G t F k (.trunc s x hi) = some (v, k1) ∧ AgH l h1 k1 ∧ k1.length = k.length ∧ ButH l k k1 := fun k hk ha => by
        simp only [evW] at he ⊢
        split at he
        · rename_i id n kk i hx hh
          have hid : id ∈ l := hx' id (by simp [hx, AV.refs])
          rw [← ha.rowAt hid]
          split at he
          · rename_i e s2 o l2 hrow
            split at he
            · rename_i hle
              rw [if_pos hle]
              split at he
              · rename_i h' hal
                simp only [Option.some.injEq, Prod.mk.injEq] at he
                obtain ⟨rfl, rfl⟩ := he
                obtain ⟨q1, q2, k1, q3, q4, q5, q6⟩ := alloc_local (l := l) (fun p hp => by simp at hp; rw [hp]; exact hs) hal (by simpa using hk) (set_ag ha hk id (some .dead))
                exact ⟨by simpa using q1, (set_but hid).trans q2, k1, by rw [q3], q4, by simpa using q5, (set_but hid).trans q6⟩
              · simp at he
            · simp at he
          · simp at he
        · rename_i kk i hx hh
          split at he
          · rename_i hz
            simp only [Option.some.injEq, Prod.mk.injEq] at he
            obtain ⟨rfl, rfl⟩ := he
            simp only
            rw [if_pos hz]
            exact ⟨by simp, .refl _ _, k, rfl, ha, rfl, .refl _ _⟩
          · simp at he
        · simp at he
      obtain ⟨h2, h3, _⟩ := key h rfl fun _ _ => rfl
      exact ⟨he, h2, h3, fun k hk ha => (key k hk ha).2.2⟩
end
end Go.Ev
set_option linter.unusedSimpArgs false
set_option linter.unusedVariables false
namespace Go.Ev
def guardTmps : Option (Nat × Bool) → List Nat
 | some (i, _) => [i]
 | none => []
def Opr.rd (o : Opr) : List Nat := o.op.tmps ++ (guardTmps o.g ++ o.fz)
def Opr.wr (o : Opr) : List Nat := o.dst.toList ++ o.fz
theorem disjL_spec {a b : List Nat} (h : disjL a b = true) : ∀ i ∈ a, i ∉ b := fun i hi hb => by
 have := List.all_eq_true.1 h i hi
 simp at this
 exact this hb
theorem setD_getD {t : List AV} {d : Nat} {v : AV} {i : Nat} : (t.set d v).getD i .undef = if d = i ∧ d < t.length then v else t.getD i .undef := by
 simp only [List.getD_eq_getElem?_getD, List.getElem?_set]
 by_cases c : d = i
 ·subst c
  by_cases hl : d < t.length
  ·simp [hl]
  ·simp [hl, List.getElem?_eq_none (Nat.le_of_not_lt hl)]
 ·simp [c]
theorem ext_getD {t u : List AV} (hl : t.length = u.length) (h : ∀ i, t.getD i .undef = u.getD i .undef) : t = u := by
 apply List.ext_getElem hl
 intro i h1 h2
 have := h i
 simpa [List.getD_eq_getElem?_getD, h1, h2] using this
section
variable {G : Cf} {F : FnEv}
theorem frz1_local {h h1 k : Heap} {v v' : AV} {m : List Nat} (hm : ∀ i ∈ v.refs, i ∈ m) (he : frz1 h v = some (v', h1)) (hl : k.length = h.length) (ha : AgH m h k) :
  h1.length = h.length ∧ ButH m h h1 ∧ (∀ i ∈ v'.refs, i ∈ m) ∧ ∃ k1, frz1 k v = some (v', k1) ∧ AgH m h1 k1 ∧ k1.length = k.length ∧ ButH m k k1 := by
 have other : ∀ (h9 : frz1 h v = some (v, h)) (h8 : frz1 k v = some (v, k)), h1.length = h.length ∧ ButH m h h1 ∧ (∀ i ∈ v'.refs, i ∈ m) ∧ ∃ k1, frz1 k v = some (v', k1) ∧ AgH m h1 k1 ∧ k1.length = k.length ∧ ButH m k k1 := fun h9 h8 => by
  rw [h9] at he
  simp only [Option.some.injEq, Prod.mk.injEq] at he
  obtain ⟨rfl, rfl⟩ := he
  exact ⟨rfl, .refl _ _, hm, k, h8, ha, rfl, .refl _ _⟩
 cases v <;> first
  | exact other rfl rfl
  | skip
 rename_i id n
 have hid : id ∈ m := hm id (by simp [AV.refs])
 simp only [frz1] at he ⊢
 rw [← ha.rowAt hid]
 split at he
 ·rename_i e s o f l hr
  simp only [Option.some.injEq, Prod.mk.injEq] at he
  obtain ⟨rfl, rfl⟩ := he
  exact ⟨by simp, set_but hid, by simp [AV.refs], _, rfl, set_ag ha hl _ _, by simp, set_but hid⟩
 ·simp at he
theorem frzL_local : ∀ {l l' : List AV} {h h1 k : Heap} {m : List Nat}, (∀ i ∈ refsL l, i ∈ m) → frzL h l = some (l', h1) → k.length = h.length → AgH m h k →
  h1.length = h.length ∧ ButH m h h1 ∧ (∀ i ∈ refsL l', i ∈ m) ∧ ∃ k1, frzL k l = some (l', k1) ∧ AgH m h1 k1 ∧ k1.length = k.length ∧ ButH m k k1
 | [], l', h, h1, k, m, _, he, hl, ha => by
  simp only [frzL, Option.some.injEq, Prod.mk.injEq] at he
  obtain ⟨rfl, rfl⟩ := he
  exact ⟨rfl, .refl _ _, by simp [refsL], k, rfl, ha, rfl, .refl _ _⟩
 | a :: l, l', h, h1, k, m, hm, he, hl, ha => by
  simp only [refsL, List.mem_append] at hm
  simp only [frzL] at he
  split at he
  ·rename_i a' h2 h3
   split at he
   ·rename_i l2 h4 h5
    simp only [Option.some.injEq, Prod.mk.injEq] at he
    obtain ⟨rfl, rfl⟩ := he
    obtain ⟨p1, p2, p3, k1, p4, p5, p6, p7⟩ := frz1_local (fun i hi => hm i (.inl hi)) h3 hl ha
    obtain ⟨q1, q2, q3, k2, q4, q5, q6, q7⟩ := frzL_local (m := m) (fun i hi => hm i (.inr hi)) h5 (by rw [p6, p1, hl]) p5
    refine ⟨q1.trans p1, p2.trans q2, fun i hi => ?_, k2, by simp only [frzL, p4, q4], q5, q6.trans p6, p7.trans q7⟩
    simp only [refsL, List.mem_append] at hi
    exact hi.elim (p3 i) (q3 i)
   ·simp at he
  ·simp at he
theorem frz_local {h h1 k : Heap} {v v' : AV} {m : List Nat} (hm : ∀ i ∈ v.refs, i ∈ m) (he : frz h v = some (v', h1)) (hl : k.length = h.length) (ha : AgH m h k) :
  h1.length = h.length ∧ ButH m h h1 ∧ (∀ i ∈ v'.refs, i ∈ m) ∧ ∃ k1, frz k v = some (v', k1) ∧ AgH m h1 k1 ∧ k1.length = k.length ∧ ButH m k k1 := by
 cases v <;> first
  | exact frz1_local hm he hl ha
  | skip
 rename_i l
 simp only [frz] at he ⊢
 split at he
 ·rename_i l' h2 h3
  simp only [Option.some.injEq, Prod.mk.injEq] at he
  obtain ⟨rfl, rfl⟩ := he
  obtain ⟨q1, q2, q3, k2, q4, q5, q6, q7⟩ := frzL_local (m := m) (fun i hi => hm i (by simpa [AV.refs] using hi)) h3 hl ha
  exact ⟨q1, q2, fun i hi => q3 i (by simpa [AV.refs] using hi), k2, by simp only [q4], q5, q6, q7⟩
 ·simp at he
theorem frzTs_local : ∀ {l : List Nat} {s s1 r : St} {m : List Nat}, (∀ j ∈ l, ∀ i ∈ (s.t.getD j .undef).refs, i ∈ m) → frzTs l s = some s1 → r.t.length = s.t.length → r.h.length = s.h.length → AgT l s.t r.t → AgH m s.h r.h →
  (s1.t.length = s.t.length ∧ s1.h.length = s.h.length ∧ (∀ i, i ∉ l → s1.t.getD i .undef = s.t.getD i .undef) ∧ ButH m s.h s1.h) ∧
  ∃ r1, frzTs l r = some r1 ∧ AgT l s1.t r1.t ∧ AgH m s1.h r1.h ∧ r1.t.length = r.t.length ∧ r1.h.length = r.h.length ∧ (∀ i, i ∉ l → r1.t.getD i .undef = r.t.getD i .undef) ∧ ButH m r.h r1.h
 | [], s, s1, r, m, _, he, htl, hhl, ht, hh => by
  simp only [frzTs, Option.some.injEq] at he
  subst he
  exact ⟨⟨rfl, rfl, fun _ _ => rfl, .refl _ _⟩, r, rfl, ht, hh, rfl, rfl, fun _ _ => rfl, .refl _ _⟩
 | j :: l, s, s1, r, m, hm, he, htl, hhl, ht, hh => by
  simp only [frzTs] at he
  split at he
  ·rename_i v h1 hv
   have hj : s.t.getD j .undef = r.t.getD j .undef := ht j (by simp)
   obtain ⟨p1, p2, p3, k1, p4, p5, p6, p7⟩ := frz_local (hm j (by simp)) hv hhl hh
   have hag : AgT l (s.t.set j v) (r.t.set j v) := fun i hi => by
    rw [setD_getD, setD_getD, htl]
    split
    ·rfl
    ·exact ht i (by simp [hi])
   obtain ⟨⟨q1, q2, q3, q4⟩, r1, q5, q6, q7, q8, q9, q10, q11⟩ := frzTs_local (l := l) (s := ⟨s.t.set j v, h1⟩) (r := ⟨r.t.set j v, k1⟩) (m := m) (fun j' hj' i hi => by
    simp only [setD_getD] at hi
    split at hi
    ·exact p3 i hi
    ·exact hm j' (by simp [hj']) i hi) he (by simpa using htl) (by simp only; rw [p6, p1, hhl]) hag p5
   refine ⟨⟨by simpa using q1, q2.trans p1, fun i hi => ?_, p2.trans q4⟩, r1, by simp only [frzTs, ← hj, p4, q5], fun i hi => ?_, q7, by simpa using q8, q9.trans p6, fun i hi => ?_, p7.trans q11⟩
   ·simp only [List.mem_cons, not_or] at hi
    rw [q3 i hi.2, setD_getD, if_neg (fun c => hi.1 c.1.symm)]
   ·by_cases c : i ∈ l
    ·exact q6 i c
    ·rw [q3 i c, q10 i c, setD_getD, setD_getD, htl]
     split
     ·rfl
     ·exact ht i hi
   ·simp only [List.mem_cons, not_or] at hi
    rw [q10 i hi.2, setD_getD, if_neg (fun c => hi.1 c.1.symm)]
  ·simp at he
structure LocS (f : St → Option St) (ft : St → List Nat × List Nat) (rd wr : List Nat) (s s1 : St) : Prop where
 run : f s = some s1
 tl : s1.t.length = s.t.length
 hl : s1.h.length = s.h.length
 tb : ∀ i, i ∉ wr → s1.t.getD i .undef = s.t.getD i .undef
 hb : ButH (ft s).2 s.h s1.h
 sub : ∀ i ∈ (ft s).2, i ∈ (ft s).1
 ag : ∀ r : St, r.t.length = s.t.length → r.h.length = s.h.length → AgT rd s.t r.t → AgH (ft s).1 s.h r.h →
  ft r = ft s ∧ ∃ r1, f r = some r1 ∧ AgT wr s1.t r1.t ∧ AgH (ft s).1 s1.h r1.h ∧ r1.t.length = r.t.length ∧ r1.h.length = r.h.length ∧ (∀ i, i ∉ wr → r1.t.getD i .undef = r.t.getD i .undef) ∧ ButH (ft s).2 r.h r1.h
theorem guardOf_ag {t u : List AV} {g : Option (Nat × Bool)} (h : AgT (guardTmps g) t u) : guardOf t g = guardOf u g := by
 cases g with
 | none => rfl
 | some p =>
  obtain ⟨i, b⟩ := p
  simp only [guardOf, h i (by simp [guardTmps])]
theorem setD_len (t : List AV) (d : Option Nat) (v : AV) : (setD t d v).length = t.length := by
 cases d <;> simp [setD]
theorem setD_get (t : List AV) (d : Option Nat) (v : AV) (i : Nat) : (setD t d v).getD i .undef = if d = some i ∧ i < t.length then v else t.getD i .undef := by
 cases d with
 | none => simp [setD]
 | some d =>
  simp only [setD, setD_getD, Option.some.injEq]
  by_cases c : d = i
  ·subst c; rfl
  ·simp [c]
theorem fp_ag {t u : List AV} {h k : Heap} {o : Op1} (ht : AgT o.tmps t u) (hh : AgH (fp G t h o) h k) : fp G u k o = fp G t h o := by
 cases o <;> simp only [Op1.tmps] at ht <;> simp only [fp] at hh ⊢ <;> first
  | rfl
  | simp only [← rho_ag (G := G) ht]
  | (simp only [← rho_ag (G := G) ht.left, ← rho_ag (G := G) ht.right]; done)
  | simp only [← rho_ag (G := G) ht.left]
  | skip
 ·rename_i f as outs
  rw [← map_ag (G := G) ht]
  congr 1
  exact reachN_local 100 _ _ (hh.mono fun i hi => by simp only [List.mem_append]; exact .inl hi)
 ·rename_i g as outs
  rw [← map_ag (G := G) ht.right]
  congr 1
  cases hg : rho G t g <;> simp only [hg] at hh ⊢
  exact reachN_local 100 _ _ (hh.mono fun i hi => by simp only [List.mem_append]; exact .inl hi)
 ·rename_i f as outs
  rw [← map_ag (G := G) ht]
theorem evOp_local {o : Opr} {s s1 : St} (he : evOp G F o s = some s1) : LocS (evOp G F o) (foot G o) o.rd o.wr s s1 := by
 have he0 := he
 have hrd1 : ∀ {r : St}, AgT o.rd s.t r.t → AgT o.op.tmps s.t r.t := fun h => h.left
 have hrd2 : ∀ {r : St}, AgT o.rd s.t r.t → AgT (guardTmps o.g) s.t r.t := fun h => h.right.left
 have hrd3 : ∀ {r : St}, AgT o.rd s.t r.t → AgT o.fz s.t r.t := fun h => h.right.right
 simp only [evOp] at he
 split at he
 ·rename_i hg
  split at he
  ·rename_i st' hf
   split at he
   ·rename_i v h1 h2
    simp only [Option.some.injEq] at he
    subst he
    have hft : foot G o s = ((o.fz.flatMap fun i => (s.t.getD i .undef).refs) ++ fp G st'.t st'.h o.op, if o.op.cls = .r ∧ o.fz = [] then [] else (o.fz.flatMap fun i => (s.t.getD i .undef).refs) ++ fp G st'.t st'.h o.op) := by
     simp only [foot, hg, hf]
    generalize hm : (o.fz.flatMap fun i => (s.t.getD i .undef).refs) ++ fp G st'.t st'.h o.op = m at hft
    have hm1 : ∀ j ∈ o.fz, ∀ i ∈ (s.t.getD j .undef).refs, i ∈ m := fun j hj i hi => by
     rw [← hm, List.mem_append]
     exact .inl (List.mem_flatMap.2 ⟨j, hj, hi⟩)
    have hm2 : ∀ i ∈ fp G st'.t st'.h o.op, i ∈ m := fun i hi => by
     rw [← hm, List.mem_append]; exact .inr hi
    obtain ⟨⟨p1, p2, p3, p4⟩, _⟩ := frzTs_local (r := s) hm1 hf rfl rfl (fun _ _ => rfl) fun _ _ => rfl
    have hloc := (ev1_local h2).mono hm2
    have hro : o.op.cls = .r ∧ o.fz = [] → ∀ {u : St} {w : AV} {h3 : Heap}, (frzTs o.fz u = some u) ∧ (ev1 G F u o.op = some (w, h3) → h3 = u.h) := fun hc u w h3 => by
     refine ⟨by rw [hc.2]; rfl, fun he => ?_⟩
     simp only [ev1, hc.1] at he
     split at he
     ·simp only [Option.some.injEq, Prod.mk.injEq] at he
      exact he.2.symm
     ·simp at he
    have but2 : ∀ {u u' : St} {w : AV} {h3 : Heap}, frzTs o.fz u = some u' → ev1 G F u' o.op = some (w, h3) → ButH m u.h h3 → ButH (foot G o s).2 u.h h3 := fun {u u' w h3} e1 e2 hbut => by
     rw [hft]
     by_cases c : o.op.cls = .r ∧ o.fz = []
     ·obtain ⟨q1, _⟩ := hro c (u := u) (w := w) (h3 := h3)
      rw [q1] at e1
      injection e1 with e1
      subst e1
      obtain ⟨_, q2⟩ := hro c (u := u) (w := w) (h3 := h3)
      rw [q2 e2]
      exact .refl _ _
     ·simp only [if_neg c]; exact hbut
    refine ⟨he0, by simp only [setD_len, p1], by simp only; rw [hloc.len, p2], fun i hi => ?_, but2 hf h2 (p4.trans hloc.but), fun i hi => ?_, fun r hrt hrh hat hah => ?_⟩
    ·simp only [Opr.wr, List.mem_append, Option.mem_toList, not_or] at hi
     rw [setD_get, if_neg (fun c => hi.1 c.1), p3 i hi.2]
    ·rw [hft] at hi ⊢
     by_cases c : o.op.cls = .r ∧ o.fz = []
     ·simp [c] at hi
     ·simpa only [if_neg c] using hi
    ·rw [hft] at hah
     obtain ⟨_, r1, q1, q2, q3, q4, q5, q6, q7⟩ := frzTs_local hm1 hf hrt hrh (hrd3 hat) hah
     have hg' : guardOf r.t o.g = some true := by rw [← guardOf_ag (hrd2 hat)]; exact hg
     have hat' : AgT o.op.tmps st'.t r1.t := fun i hi => by
      by_cases c : i ∈ o.fz
      ·exact q2 i c
      ·rw [p3 i c, q6 i c]; exact hrd1 hat i hi
     have hev : ev1 G F ⟨st'.t, r1.h⟩ o.op = ev1 G F ⟨r1.t, r1.h⟩ o.op := ev1_ag hat'
     obtain ⟨k1, q8, q9, q10, q11⟩ := hloc.ag r1.h (by rw [q5, hrh, p2]) q3
     simp only [hev] at q8
     have hfp : fp G r1.t r1.h o.op = fp G st'.t st'.h o.op := fp_ag hat' (q3.mono hm2)
     have hfz : (o.fz.flatMap fun i => (r.t.getD i .undef).refs) = o.fz.flatMap fun i => (s.t.getD i .undef).refs := by
      rw [List.flatMap_def, List.flatMap_def]
      congr 1
      exact List.map_congr_left fun i hi => by rw [hrd3 hat i hi]
     have hrun : evOp G F o r = some ⟨setD r1.t o.dst v, k1⟩ := by
      simp only [evOp, hg', q1]
      have : ev1 G F r1 o.op = some (v, k1) := q8
      rw [this]
     refine ⟨?_, _, hrun, fun i hi => ?_, by rw [hft]; exact q9, by simp only [setD_len, q4], by simp only; rw [q10, q5], fun i hi => ?_, but2 q1 q8 (q7.trans q11)⟩
     ·rw [hft]
      simp only [foot, hg', q1, hfp, hfz, hm]
     ·simp only [setD_get, p1, q4, hrt]
      split
      ·rfl
      ·rename_i c
       simp only [Opr.wr, List.mem_append, Option.mem_toList] at hi
       by_cases c2 : i ∈ o.fz
       ·exact q2 i c2
       ·have hd : o.dst = some i := hi.resolve_right c2
        have hlt : ¬ i < s.t.length := fun h => c ⟨hd, h⟩
        have e1 : st'.t.getD i .undef = .undef := by simp [List.getD, List.getElem?_eq_none (show st'.t.length ≤ i by omega)]
        have e2 : r1.t.getD i .undef = .undef := by simp [List.getD, List.getElem?_eq_none (show r1.t.length ≤ i by omega)]
        rw [e1, e2]
     ·simp only [Opr.wr, List.mem_append, Option.mem_toList, not_or] at hi
      rw [setD_get, if_neg (fun c => hi.1 c.1), q6 i hi.2]
   ·simp at he
  ·simp at he
 ·rename_i hg
  simp only [Option.some.injEq] at he
  subst he
  have hft : ∀ {r : St}, AgT o.rd s.t r.t → foot G o r = ([], []) := fun {r} hat => by
   have : guardOf r.t o.g = some false := by rw [← guardOf_ag (hrd2 hat)]; exact hg
   simp only [foot, this]
  have hs := hft (r := s) fun _ _ => rfl
  refine ⟨he0, by simp [setD_len], rfl, fun i hi => ?_, by rw [hs]; exact .refl _ _, by rw [hs]; simp, fun r hrt hrh hat hah => ?_⟩
  ·simp only [Opr.wr, List.mem_append, Option.mem_toList, not_or] at hi
   rw [setD_get, if_neg (fun c => hi.1 c.1)]
  ·rw [hs, hft hat]
   have hg' : guardOf r.t o.g = some false := by rw [← guardOf_ag (hrd2 hat)]; exact hg
   refine ⟨rfl, ⟨setD r.t o.dst (.s undef), r.h⟩, by simp only [evOp, hg'], fun i hi => ?_, fun i hi => by simp at hi, by simp [setD_len], rfl, fun i hi => ?_, .refl _ _⟩
   ·simp only [setD_get, hrt]
    split
    ·rfl
    ·rename_i c
     simp only [Opr.wr, List.mem_append, Option.mem_toList] at hi
     rcases hi with hd | hf
     ·have hlt : ¬ i < s.t.length := fun h => c ⟨hd, h⟩
      have e1 : s.t.getD i .undef = .undef := by simp [List.getD, List.getElem?_eq_none (show s.t.length ≤ i by omega)]
      have e2 : r.t.getD i .undef = .undef := by simp [List.getD, List.getElem?_eq_none (show r.t.length ≤ i by omega)]
      rw [e1, e2]
     ·exact hrd3 hat i hf
   ·simp only [Opr.wr, List.mem_append, Option.mem_toList, not_or] at hi
    rw [setD_get, if_neg (fun c => hi.1 c.1)]
 ·simp at he
def apart (p q : Opr) : Bool := disjL p.wr (q.rd ++ q.wr) && disjL q.wr p.rd
theorem disj_spec {a b : List Nat × List Nat} (h : disj a b = true) : (∀ i ∈ a.2, i ∉ b.1) ∧ ∀ i ∈ b.2, i ∉ a.1 := by
 simp only [disj, Bool.and_eq_true] at h
 exact ⟨disjL_spec h.1, disjL_spec h.2⟩
theorem swap {p q : Opr} {s s1 s2 : St} (ha : apart p q = true) (h1 : evOp G F p s = some s1) (h2 : evOp G F q s1 = some s2) (hd : disj (foot G p s) (foot G q s1) = true) :
  ∃ s1', evOp G F q s = some s1' ∧ evOp G F p s1' = some s2 ∧ foot G q s = foot G q s1 ∧ foot G p s1' = foot G p s := by
 simp only [apart, Bool.and_eq_true] at ha
 have a1 := disjL_spec ha.1
 have a2 := disjL_spec ha.2
 obtain ⟨d1, d2⟩ := disj_spec hd
 have lp := evOp_local h1
 have lq := evOp_local h2
 obtain ⟨f1, t1, e1, g1, g2, g3, g4, g5, g6⟩ := lq.ag s lp.tl.symm lp.hl.symm (fun i hi => lp.tb i fun hw => a1 i hw (by simp [hi])) fun i hi => (lp.hb i fun hw => d1 i hw hi).symm
 obtain ⟨f2, t2, e2, k1, k2, k3, k4, k5, k6⟩ := lp.ag t1 (by rw [g3]) (by rw [g4]) (fun i hi => (g5 i fun hw => a2 i hw hi).symm) fun i hi => g6 i fun hw => d2 i hw hi
 refine ⟨t1, e1, ?_, f1, f2⟩
 rw [e2]
 congr 1
 have et : t2.t = s2.t := ext_getD (by rw [k3, g3, lq.tl, lp.tl]) fun i => by
  by_cases c1 : i ∈ p.wr
  ·rw [← k1 i c1, lq.tb i fun hw => a1 i c1 (by simp [hw])]
  ·rw [k5 i c1]
   by_cases c2 : i ∈ q.wr
   ·exact (g1 i c2).symm
   ·rw [g5 i c2, lq.tb i c2, lp.tb i c1]
 have eh : t2.h = s2.h := by
  apply List.ext_getElem?
  intro i
  by_cases c1 : i ∈ (foot G p s).2
  ·rw [← k2 i (lp.sub i c1), lq.hb i fun hw => d2 i hw (lp.sub i c1)]
  ·rw [← k6 i c1]
   by_cases c2 : i ∈ (foot G q s1).2
   ·exact (g2 i (lq.sub i c2)).symm
   ·rw [← g6 i c2, ← lq.hb i c2, ← lp.hb i c1]
 cases t2; cases s2
 simp only at et eh
 rw [et, eh]
theorem ptrIs_eq {a b : Nat} {v : AV} (h : ptrIs a b v = true) : v = .ptr a b := by
 unfold ptrIs at h
 split at h
 ·simp only [Bool.and_eq_true, beq_iff_eq] at h
  rw [h.1, h.2]
 ·simp at h
theorem pinAt_ag {p : Pin} {h k : Heap} (e : h[p.id]? = k[p.id]?) : pinAt p h = pinAt p k := by
 simp only [pinAt, getO, List.getD_eq_getElem?_getD, e]
theorem pinLd_spec {p : Pin} {o : Opr} {s : St} (h : pinLd G p o s = true) : ∃ d x, o = ⟨d, .load false 1 x, none, []⟩ ∧ rho G s.t x = .ptr p.id p.o := by
 unfold pinLd at h
 split at h
 ·rename_i d x
  exact ⟨d, x, rfl, ptrIs_eq h⟩
 ·simp at h
theorem pinLd_ag {p : Pin} {o : Opr} {s r : St} (h : AgT o.rd s.t r.t) : pinLd G p o s = pinLd G p o r := by
 unfold pinLd
 split
 ·rename_i d x
  rw [rho_ag (G := G) (fun i hi => h i (by simp only [Opr.rd, Op1.tmps, List.mem_append]; exact .inl hi))]
 ·rfl
theorem pin_run {p : Pin} {d : Option Nat} {x : O} {s : St} (hx : rho G s.t x = .ptr p.id p.o) (hc : pinAt p s.h = true) : evOp G F ⟨d, .load false 1 x, none, []⟩ s = some ⟨setD s.t d (.ptr p.va p.vb), s.h⟩ := by
 unfold pinAt at hc
 split at hc
 ·rename_i c hg
  have hv := ptrIs_eq hc
  have hlt : p.o < c.length := by
   rcases Nat.lt_or_ge p.o c.length with h | h
   ·exact h
   ·rw [List.getD_eq_getElem?_getD, List.getElem?_eq_none h] at hv
    simp at hv
  have hv2 : c[p.o]? = some (.ptr p.va p.vb) := by
   rw [List.getD_eq_getElem?_getD, List.getElem?_eq_getElem hlt] at hv
   rw [List.getElem?_eq_getElem hlt]
   simpa using hv
  simp only [evOp, guardOf, frzTs, ev1, Op1.cls, evR, hx, hg]
  rw [if_pos (by omega)]
  simp [hv2]
 ·simp at hc
theorem pin_foot {p : Pin} {d : Option Nat} {x : O} {s : St} (hx : rho G s.t x = .ptr p.id p.o) : foot G ⟨d, .load false 1 x, none, []⟩ s = ([p.id], []) := by
 simp only [foot, guardOf, frzTs, fp, hx, AV.refs, List.flatMap_nil, List.nil_append, Op1.cls, and_self, if_true]
theorem swapPin {p q : Opr} {k : Pin} {s s1 s2 : St} (ha : apart p q = true) (h1 : evOp G F p s = some s1) (h2 : evOp G F q s1 = some s2) (hl : pinLd G k q s1 = true) (hc : pinAt k s.h = true) (hc1 : pinAt k s1.h = true) :
  ∃ s1', evOp G F q s = some s1' ∧ evOp G F p s1' = some s2 ∧ foot G q s = foot G q s1 ∧ foot G p s1' = foot G p s ∧ s1'.h = s.h := by
 simp only [apart, Bool.and_eq_true] at ha
 have a1 := disjL_spec ha.1
 have a2 := disjL_spec ha.2
 have lp := evOp_local h1
 have hl0 : pinLd G k q s = true := by rw [pinLd_ag (r := s1) (fun i hi => (lp.tb i fun hw => a1 i hw (by simp [hi])).symm)]; exact hl
 obtain ⟨d, x, rfl, hx⟩ := pinLd_spec hl0
 obtain ⟨d', x', he, hx1⟩ := pinLd_spec hl
 cases he
 have r0 := pin_run (F := F) (d := d) hx hc
 have r1 := pin_run (F := F) (d := d) hx1 hc1
 rw [r1] at h2
 cases h2
 have hd : ∀ i, d = some i → i ∉ p.rd ∧ i ∉ p.wr := fun i hi => ⟨a2 i (by simp [Opr.wr, hi]), fun hw => a1 i hw (by simp [Opr.wr, hi])⟩
 obtain ⟨f2, t2, e2, k1, k2, k3, k4, k5, k6⟩ := lp.ag ⟨setD s.t d (.ptr k.va k.vb), s.h⟩ (by simp [setD_len]) rfl (fun i hi => by
  simp only [setD_get]
  rw [if_neg (fun c => (hd i c.1).1 hi)]) fun i hi => rfl
 refine ⟨_, r0, ?_, by rw [pin_foot hx, pin_foot hx1], f2, rfl⟩
 rw [e2]
 congr 1
 have et : t2.t = setD s1.t d (.ptr k.va k.vb) := ext_getD (by rw [k3]; simp only [setD_len]; exact lp.tl.symm) fun i => by
  by_cases c1 : i ∈ p.wr
  ·rw [← k1 i c1, setD_get, if_neg (fun c => (hd i c.1).2 c1)]
  ·rw [k5 i c1]
   simp only [setD_get, lp.tl, lp.tb i c1]
 have eh : t2.h = s1.h := by
  apply List.ext_getElem?
  intro i
  by_cases c1 : i ∈ (foot G p s).2
  ·exact (k2 i (lp.sub i c1)).symm
  ·rw [← k6 i c1, ← lp.hb i c1]
 cases t2
 simp only at et eh
 rw [et, eh]
def pinC (pn : Option Pin) (s : St) : Prop := ∀ p, pn = some p → pinAt p s.h = true
def pinI (G : Cf) (pn : Option Pin) (j : Nat) (o : Opr) (s : St) : Prop := ∀ p, pn = some p → p.ix = j → pinLd G p o s = true
def Good (G : Cf) (F : FnEv) (pn : Option Pin) (op : Nat → Opr) (T : Nat → List Nat × List Nat) (sf : St) : List Nat → St → Prop
 | [], s => s = sf ∧ pinC pn s
 | j :: R, s => pinC pn s ∧ pinI G pn j (op j) s ∧ ∃ s1, evOp G F (op j) s = some s1 ∧ foot G (op j) s = T j ∧ Good G F pn op T sf R s1
theorem Good.head {pn : Option Pin} {op : Nat → Opr} {T : Nat → List Nat × List Nat} {sf : St} : ∀ {R : List Nat} {s : St}, Good G F pn op T sf R s → pinC pn s
 | [], _, h => h.2
 | _ :: _, _, h => h.1
theorem Good.bubble {pn : Option Pin} {op : Nat → Opr} {T : Nat → List Nat × List Nat} {sf : St} {i : Nat} {r2 : List Nat} : ∀ (r1 : List Nat) (s : St), Good G F pn op T sf (r1 ++ i :: r2) s →
  (∀ j ∈ r1, apart (op j) (op i) = true ∧ (disj (T j) (T i) = true ∨ ∃ p, pn = some p ∧ p.ix = i)) → Good G F pn op T sf (i :: (r1 ++ r2)) s
 | [], s, h, _ => h
 | j :: r1, s, h, ha => by
  obtain ⟨c0, i0, s1, h1, h2, h3⟩ := h
  obtain ⟨c1, i1, s2, h4, h5, h6⟩ := Good.bubble r1 s1 h3 fun k hk => ha k (by simp [hk])
  have c2 := h6.head
  obtain ⟨a1, a2⟩ := ha j (by simp)
  have ha1 := a1
  simp only [apart, Bool.and_eq_true] at ha1
  have w1 := disjL_spec ha1.1
  have w2 := disjL_spec ha1.2
  have lp := evOp_local h1
  have ii : pinI G pn i (op i) s := fun p hp hi => by
   rw [pinLd_ag (r := s1) (fun n hn => (lp.tb n fun hw => w1 n hw (by simp [hn])).symm)]
   exact i1 p hp hi
  have ij : ∀ {s1' : St}, evOp G F (op i) s = some s1' → pinI G pn j (op j) s1' := fun {s1'} k1 p hp hj => by
   have lq := evOp_local k1
   rw [← pinLd_ag (s := s) (fun n hn => (lq.tb n fun hw => w2 n hw hn).symm)]
   exact i0 p hp hj
  rcases a2 with a2 | ⟨p, hp, hpi⟩
  ·rw [← h2, ← h5] at a2
   obtain ⟨s1', k1, k2, k3, k4⟩ := swap a1 h1 h4 a2
   have d := disj_spec a2
   have lq' := evOp_local k1
   have lp' := evOp_local k2
   refine ⟨c0, ii, s1', k1, k3.trans h5, fun p hp => ?_, ij k1, s2, k2, k4.trans h2, h6⟩
   by_cases c : p.id ∈ (foot G (op i) s).2
   ·rw [k3] at c
    have c3 : p.id ∉ (foot G (op j) s1').2 := fun hw => d.2 _ c (by rw [← k4]; exact lp'.sub _ hw)
    rw [pinAt_ag (lp'.hb _ c3)]
    exact c2 p hp
   ·rw [← pinAt_ag (lq'.hb _ c)]
    exact c0 p hp
  ·obtain ⟨s1', k1, k2, k3, k4, k5⟩ := swapPin a1 h1 h4 (i1 p hp hpi) (c0 p hp) (c1 p hp)
   exact ⟨c0, ii, s1', k1, k3.trans h5, fun p hp => by rw [k5]; exact c0 p hp, ij k1, s2, k2, k4.trans h2, h6⟩
theorem good_of_ops {pn : Option Pin} {op : Nat → Opr} : ∀ (qs : List Opr) (b : Nat) (s sf : St) (T : Nat → List Nat × List Nat), (∀ k, k < qs.length → qs[k]? = some (op (b + k))) → (∀ k, k < qs.length → T (b + k) = (feet G F qs s).getD k ([], [])) →
  (∀ p, pn = some p → ((sts G F qs s).all fun s => pinAt p s.h) = true) → (∀ p, pn = some p → b ≤ p.ix → pinLdL G p (p.ix - b) qs (sts G F qs s) = true) →
  evOps G F qs s = some sf → Good G F pn op T sf (List.range' b qs.length) s
 | [], b, s, sf, T, _, _, hC, _, he => by
  simp only [evOps, Option.some.injEq] at he
  refine ⟨he, fun p hp => ?_⟩
  have := hC p hp
  simpa [sts] using this
 | q :: qs, b, s, sf, T, hq, hT, hC, hI, he => by
  simp only [evOps] at he
  split at he
  ·rename_i s1 h1
   have hq0 : q = op b := by simpa using hq 0 (by simp)
   have es : sts G F (q :: qs) s = s :: sts G F qs s1 := by simp only [sts, h1]
   rw [es] at hC hI
   refine ⟨fun p hp => ?_, fun p hp hi => ?_, s1, hq0 ▸ h1, ?_, ?_⟩
   ·have := hC p hp
    rw [List.all_cons, Bool.and_eq_true] at this
    exact this.1
   ·have := hI p hp (by omega)
    rw [hi, Nat.sub_self] at this
    rw [← hq0]
    exact this
   ·have := hT 0 (by simp)
    simp only [feet, Nat.add_zero, List.getD_cons_zero] at this
    rw [this, hq0]
   ·refine good_of_ops qs (b + 1) s1 sf T (fun k hk => ?_) (fun k hk => ?_) (fun p hp => ?_) (fun p hp hi => ?_) he
    ·have := hq (k + 1) (by simpa using hk)
     simpa [Nat.add_assoc, Nat.add_comm 1 k] using this
    ·have := hT (k + 1) (by simpa using hk)
     simp only [feet, h1, List.getD_cons_succ] at this
     rw [← this]
     congr 1
     omega
    ·have := hC p hp
     rw [List.all_cons, Bool.and_eq_true] at this
     exact this.2
    ·have := hI p hp (by omega)
     rw [show p.ix - b = (p.ix - (b + 1)) + 1 by omega] at this
     exact this
  ·simp at he
end
end Go.Ev
set_option linter.unusedSimpArgs false
set_option linter.unusedVariables false
namespace Go.Ev
def trGuard (ops : Array Oper) : Option (Nat × Bool) → Option (Option (Nat × Bool))
 | none => some none
 | some (j, b) => match (ops[j]?).bind (·.dst) with
  | some d => some (some (d, b))
  | none => none
def trOpr (P : Program) (ops : Array Oper) (o : Oper) (an : Opr) : Option Opr := match tr1 P o.op an.op, trGuard ops o.guard with
 | some q, some g => some ⟨o.dst, q, g, an.fz⟩
 | _, _ => none
def trOprs (P : Program) (ops : Array Oper) : List Oper → List Opr → Option (List Opr)
 | [], [] => some []
 | o :: l, an :: m => match trOpr P ops o an, trOprs P ops l m with
  | some q, some r => some (q :: r)
  | _, _ => none
 | _, _ => none
def Op1.noFp : Op1 → Bool
 | .new _ _ | .box _ _ _ | .lit _ _ _ _ _ _ | .make _ _ _ _ _ _ _ => false
 | .qcall _ _ outs => outs.isEmpty
 | .load _ _ _ | .b2s _ | .cmpb _ _ | .eqp _ _ _ _ | .ia _ _ _ | .len _ _ | .store _ _ _ | .call _ _ _ | .callv _ _ _ | .bcall _ _ _ | .app _ _ _ _ _ _ | .appz _ _ _ _ _ _ _ | .trunc _ _ _ | .markb _ => false
 | _ => true
def free1 (o : Opr) : Bool := o.fz.isEmpty && o.op.noFp
def rdonly (o : Opr) : Bool := o.fz.isEmpty && decide (o.op.cls = .r)
def freePair (p q : Opr) : Bool := free1 p || free1 q || (rdonly p && rdonly q)
def masksOk (ops : Array Oper) (M : List Nat) : Bool := (List.range ops.size).all fun j => match ops[j]? with
 | none => false
 | some o => (o.after.toList.all fun e => !Region.binds .any e || decide (e.on < j)) &&
   (List.range j).all fun i => !(M.getD j 0).testBit i || o.after.toList.any fun e => Region.binds .any e && (e.on == i || (decide (i < e.on) && (M.getD e.on 0).testBit i))
def opAt (qs : List Opr) (i : Nat) : Opr := qs.getD i ⟨none, .mv (.t 0), none, []⟩
def pairsOk (n : Nat) (qs : List Opr) (pairs : List (Nat × Nat)) (M : List Nat) : Bool := (List.range n).all fun j => (List.range j).all fun i =>
 (M.getD j 0).testBit i || (apart (opAt qs i) (opAt qs j) && (freePair (opAt qs i) (opAt qs j) || pairs.contains (i, j)))
def trReg (P : Program) (ops : Array Oper) (draw : Bool) (pairs : List (Nat × Nat)) (an : List Opr) : Option (List Opr) := match trOprs P ops ops.toList an with
 | some qs => if !draw || (P.follows .mixedOrders && masksOk ops (Region.before ops).toList && pairsOk ops.size qs pairs (Region.before ops).toList) then some qs else none
 | none => none
section
variable {P : Program} {G : Cf} {F : FnEv} {x : Cx} {st : St} {a : Act}
theorem guard_ok {ops : Array Oper} {o : Oper} {g : Option (Nat × Bool)} (htr : trGuard ops o.guard = some g) (hs : RelS G x st a) {b : Bool} (hg : guardOf st.t g = some b) : Region.wanted o (yielded ops a.tmps) = b := by
 unfold trGuard at htr
 split at htr
 ·rename_i h0
  simp only [Option.some.injEq] at htr
  subst htr
  simp only [guardOf, Option.some.injEq] at hg
  subst hg
  simp [Region.wanted, h0]
 ·rename_i j w h0
  split at htr
  ·rename_i d hd
   simp only [Option.some.injEq] at htr
   subst htr
   have hv := hs.val d
   simp only [guardOf] at hg
   simp only [Region.wanted, h0, yielded, hd, Option.bind_some]
   split at hg
   ·rename_i c hc
    rw [hc] at hv
    have := hv.s_inv
    simp only [Option.some.injEq] at hg
    subst hg
    have h1 : a.tmps[d]? = some (.bool c) := by
     rw [Array.getD_eq_getD_getElem?] at this
     cases h2 : a.tmps[d]? with
     | none => rw [h2] at this; simp [undef] at this
     | some u => rw [h2] at this; simpa using this
    rw [h1]
    cases c <;> cases w <;> rfl
   ·rename_i l hc
    rw [hc] at hv
    have := hv.s_inv
    simp only [Option.some.injEq] at hg
    subst hg
    rw [Array.getD_eq_getD_getElem?] at this
    cases h2 : a.tmps[d]? with
    | none => rfl
    | some u =>
     rw [h2] at this
     simp at this
     subst this
     rfl
   ·simp at hg
  ·simp at htr
theorem relS_setD {x : Cx} {st : St} {a : Act} (hs : RelS G x st a) (d : Option Nat) {v : AV} {u : Value} (hv : RelV x st.h v u) (hl : ∀ id ∈ v.refs, (getO st.h id).isSome) : RelS G x ⟨setD st.t d v, st.h⟩ (a.put d u) := by
 cases d with
 | none => exact hs
 | some d => exact hs.put d hv hl
theorem put_defers (a : Act) (d : Option Nat) (u : Value) : (a.put d u).defers = a.defers := by cases d <;> rfl
theorem evOp_ok (hF : FnsOk P G F) {ops : Array Oper} {i : Nat} {o : Oper} {an q : Opr} (ho : ops[i]? = some o) (htr : trOpr P ops o an = some q) (hs : RelS G x st a) {st' : St} (he : evOp G F q st = some st')
  {K : Act → World → Prop} {Q : Exit → Act → World → Prop} (hK : ∀ x' a', RelS G x' st' a' → Step (fun _ => True) x st.h x' st'.h → a'.defers = a.defers → K a' x'.w) : wpOp P ops Q i K a x.w := by
 unfold trOpr at htr
 split at htr
 ·rename_i op1 g h1 h2
  simp only [Option.some.injEq] at htr
  subst htr
  unfold wpOp
  simp only [ho]
  simp only [evOp] at he
  split at he
  ·rename_i hg
   rw [if_pos (guard_ok h2 hs hg)]
   split at he
   ·rename_i st1 hf
    obtain ⟨x1, f1, hs1⟩ := frzTs_ok an.fz hs hf
    split at he
    ·rename_i v h3 h4
     simp only [Option.some.injEq] at he
     subst he
     left
     have := ev1_ok hF h1 hs1 h4
     rw [← f1.w]
     refine this K Q fun x' u hi hst hr hl => ?_
     refine hK x' _ (relS_setD (st := ⟨st1.t, h3⟩) (hs1.step' hi hst) o.dst hr hl) (f1.step.trans hst) (put_defers _ _ _)
    ·simp at he
   ·simp at he
  ·rename_i hg
   rw [if_neg (by rw [guard_ok h2 hs hg]; simp)]
   simp only [Option.some.injEq] at he
   subst he
   exact hK x _ (relS_setD hs o.dst (.s undef) (by simp [AV.refs])) (Step.refl _ _ _) (put_defers _ _ _)
  ·simp at he
 ·simp at htr
theorem trOprs_at {ops : Array Oper} : ∀ {l : List Oper} {an qs : List Opr}, trOprs P ops l an = some qs → qs.length = l.length ∧ ∀ (i : Nat) (o : Oper), l[i]? = some o → ∃ an', trOpr P ops o an' = some (opAt qs i)
 | [], [], qs, h => by
  simp only [trOprs, Option.some.injEq] at h
  subst h
  exact ⟨rfl, fun i o h => by simp at h⟩
 | [], _ :: _, qs, h => by simp [trOprs] at h
 | _ :: _, [], qs, h => by simp [trOprs] at h
 | o :: l, an :: m, qs, h => by
  simp only [trOprs] at h
  split at h
  ·rename_i q r h1 h2
   simp only [Option.some.injEq] at h
   subst h
   obtain ⟨h3, h4⟩ := trOprs_at h2
   refine ⟨by simp [h3], fun i o' ho => ?_⟩
   cases i with
   | zero =>
    simp at ho
    subst ho
    exact ⟨an, by simpa [opAt] using h1⟩
   | succ i =>
    obtain ⟨an', h5⟩ := h4 i o' (by simpa using ho)
    exact ⟨an', by simpa [opAt] using h5⟩
  ·simp at h
theorem good_wp {pn : Option Pin} (hF : FnsOk P G F) {ops : Array Oper} {op : Nat → Opr} {T : Nat → List Nat × List Nat} {sf : St} {Q : Exit → Act → World → Prop} {x0 : Cx} {h0 : Heap} {d0 : List Deferred}
  (hQ : ∀ x' a', RelS G x' sf a' → Step (fun _ => True) x0 h0 x' sf.h → a'.defers = d0 → Q .normal a' x'.w) :
  ∀ (R : List Nat) {x : Cx} {s : St} {a : Act}, (∀ j ∈ R, ∃ o an, ops[j]? = some o ∧ trOpr P ops o an = some (op j)) → Good G F pn op T sf R s → RelS G x s a → Step (fun _ => True) x0 h0 x s.h → a.defers = d0 → wpOps P ops Q R a x.w
 | [], x, s, a, _, hg, hs, hst, hd => by
  obtain rfl : s = sf := hg.1
  exact hQ x a hs hst hd
 | j :: R, x, s, a, ho, hg, hs, hst, hd => by
  obtain ⟨_, _, s1, h1, _, h2⟩ := hg
  obtain ⟨o, an, h3, h4⟩ := ho j (by simp)
  rw [wpOps_cons]
  exact evOp_ok hF h3 h4 hs h1 fun x' a' hs' hst' hd' => good_wp hF hQ R (fun k hk => ho k (by simp [hk])) h2 hs' (hst.trans hst') (hd'.trans hd)
def rest (n : Nat) (listed : Array Bool) : List Nat := (List.range n).filter fun k => !listed.getD k true
theorem rest_set {n : Nat} {listed : Array Bool} (hl : listed.size = n) {r1 r2 : List Nat} {i : Nat} (h : rest n listed = r1 ++ i :: r2) : rest n (listed.setIfInBounds i true) = r1 ++ r2 ∧ (∀ j ∈ r1, j < i) ∧ (∀ j ∈ r1, listed.getD j true = false) := by
 have hp : (rest n listed).Pairwise (· < ·) := List.Pairwise.filter _ List.pairwise_lt_range
 rw [h] at hp
 obtain ⟨p1, p2, p3⟩ := List.pairwise_append.1 hp
 have hi1 : ∀ j ∈ r1, j < i := fun j hj => p3 j hj i (by simp)
 have hi2 : ∀ j ∈ r2, i < j := (List.pairwise_cons.1 p2).1
 refine ⟨?_, hi1, fun j hj => ?_⟩
 ·have h1 : rest n (listed.setIfInBounds i true) = (rest n listed).filter fun k => decide (k ≠ i) := by
   unfold rest
   rw [List.filter_filter]
   apply List.filter_congr
   intro k hk
   have hkn : k < n := List.mem_range.1 hk
   by_cases c : k = i
   ·subst c
    simp [Array.getD_eq_getD_getElem?, hl, hkn]
   ·have : (listed.setIfInBounds i true)[k]? = listed[k]? := Array.getElem?_setIfInBounds_ne (fun e => c e.symm)
    simp [Array.getD_eq_getD_getElem?, this, c]
  rw [h1, h, List.filter_append, List.filter_cons_of_neg (by simp)]
  congr 1
  ·exact List.filter_eq_self.2 fun j hj => by have := hi1 j hj; simp; omega
  ·exact List.filter_eq_self.2 fun j hj => by have := hi2 j hj; simp; omega
 ·have : j ∈ rest n listed := by rw [h]; simp [hj]
  simpa [rest] using (List.mem_filter.1 this).2
structure Down (ops : Array Oper) (listed : Array Bool) : Prop where
 size : listed.size = ops.size
 closed : ∀ (j : Nat) (o : Oper) (e : Edge), ops[j]? = some o → listed.getD j false = true → e ∈ o.after → Region.binds .any e = true → listed.getD e.on false = true
theorem masks_listed {ops : Array Oper} {M : List Nat} (hm : masksOk ops M = true) {listed : Array Bool} (hd : Down ops listed) : ∀ (i : Nat) (o : Oper), ops[i]? = some o → (∀ e ∈ o.after, Region.binds .any e = true → listed.getD e.on false = true) →
  ∀ j, j < i → (M.getD i 0).testBit j = true → listed.getD j false = true := by
 intro i
 induction i using Nat.strongRecOn with
 | _ i ih =>
  intro o ho ha j hj hb
  have hi : i < ops.size := (Array.getElem?_eq_some_iff.1 ho).1
  have h1 := List.all_eq_true.1 hm i (List.mem_range.2 hi)
  rw [ho] at h1
  simp only [Bool.and_eq_true] at h1
  obtain ⟨h2, h3⟩ := h1
  have h4 := List.all_eq_true.1 h3 j (List.mem_range.2 hj)
  rw [hb] at h4
  simp only [Bool.not_true, Bool.false_or] at h4
  obtain ⟨e, he, h5⟩ := List.any_eq_true.1 h4
  simp only [Bool.and_eq_true, Bool.or_eq_true, beq_iff_eq, decide_eq_true_eq] at h5
  obtain ⟨h6, h7⟩ := h5
  have hea : e ∈ o.after := by simpa using he
  have hl := ha e hea h6
  rcases h7 with h7 | ⟨h7, h8⟩
  ·rw [← h7]; exact hl
  ·have h9 := List.all_eq_true.1 h2 e he
   rw [h6] at h9
   simp only [Bool.not_true, Bool.false_or, decide_eq_true_eq] at h9
   have hlt : e.on < ops.size := by omega
   exact ih e.on h9 ops[e.on] (Array.getElem?_eq_getElem hlt) (fun e' he' hb' => hd.closed e.on _ e' (Array.getElem?_eq_getElem hlt) hl he' hb') j h7 h8
theorem ready_mem {ops : Array Oper} {listed : Array Bool} {i : Nat} (h : i ∈ Region.ready .any ops listed) : i ∈ rest ops.size listed ∧ ∃ o, ops[i]? = some o ∧ ∀ e ∈ o.after, Region.binds .any e = true → listed.getD e.on false = true := by
 unfold Region.ready at h
 obtain ⟨h1, h2⟩ := List.mem_filter.1 h
 simp only [Bool.and_eq_true] at h2
 refine ⟨List.mem_filter.2 ⟨h1, h2.1⟩, ?_⟩
 have hi : i < ops.size := List.mem_range.1 h1
 have ho : ops[i]? = some ops[i] := Array.getElem?_eq_getElem hi
 refine ⟨ops[i], ho, fun e he hb => ?_⟩
 have h3 := h2.2
 rw [ho] at h3
 simp only [Option.map_some, Option.getD_some, Array.all_eq_true'] at h3
 have h4 := h3 e he
 rw [hb] at h4
 simpa using h4
theorem ready_nil {ops : Array Oper} {M : List Nat} (hm : masksOk ops M = true) {listed : Array Bool} (hd : Down ops listed) (h : Region.ready .any ops listed = []) : rest ops.size listed = [] := by
 cases hr : rest ops.size listed with
 | nil => rfl
 | cons i r =>
  obtain ⟨_, h1, _⟩ := rest_set hd.size (r1 := []) hr
  have hi : i ∈ rest ops.size listed := by rw [hr]; simp
  obtain ⟨hi1, hi2⟩ := List.mem_filter.1 hi
  have hlt : i < ops.size := List.mem_range.1 hi1
  have ho : ops[i]? = some ops[i] := Array.getElem?_eq_getElem hlt
  have hmem : i ∈ Region.ready .any ops listed := by
   unfold Region.ready
   refine List.mem_filter.2 ⟨hi1, ?_⟩
   simp only [Bool.and_eq_true]
   refine ⟨hi2, ?_⟩
   rw [ho]
   simp only [Option.map_some, Option.getD_some, Array.all_eq_true']
   intro e he
   have h1 := List.all_eq_true.1 hm i (List.mem_range.2 hlt)
   rw [ho] at h1
   simp only [Bool.and_eq_true] at h1
   have h9 := List.all_eq_true.1 h1.1 e (by simpa using he)
   cases hb : Region.binds .any e with
   | false => rfl
   | true =>
    rw [hb] at h9
    simp only [Bool.not_true, Bool.false_or, decide_eq_true_eq] at h9
    simp only [Bool.not_true, Bool.false_or]
    cases hg : listed.getD e.on false with
    | true => rfl
    | false =>
     have hmr : e.on ∈ rest ops.size listed := List.mem_filter.2 ⟨List.mem_range.2 (by omega), by
      have : e.on < listed.size := by rw [hd.size]; omega
      rw [Array.getD_eq_getD_getElem?, Array.getElem?_eq_getElem this] at hg ⊢
      simpa using hg⟩
     have hp : (rest ops.size listed).Pairwise (· < ·) := List.Pairwise.filter _ List.pairwise_lt_range
     rw [hr] at hp hmr
     rcases List.mem_cons.1 hmr with hc | hc
     ·omega
     ·have := (List.pairwise_cons.1 hp).1 _ hc
      omega
  rw [h] at hmem
  simp at hmem
theorem Down.set {ops : Array Oper} {listed : Array Bool} (hd : Down ops listed) {i : Nat} {o : Oper} (ho : ops[i]? = some o) (ha : ∀ e ∈ o.after, Region.binds .any e = true → listed.getD e.on false = true) : Down ops (listed.setIfInBounds i true) := by
 have grow : ∀ k, listed.getD k false = true → (listed.setIfInBounds i true).getD k false = true := fun k hk => by
  by_cases c : i = k
  ·subst c
   have : i < listed.size := by rw [hd.size]; exact (Array.getElem?_eq_some_iff.1 ho).1
   simp [Array.getD_eq_getD_getElem?, this]
  ·rw [Array.getD_eq_getD_getElem?, Array.getElem?_setIfInBounds_ne c, ← Array.getD_eq_getD_getElem?]; exact hk
 refine ⟨by simp [hd.size], fun j o' e hj hl he hb => ?_⟩
 by_cases c : i = j
 ·subst c
  rw [ho] at hj
  injection hj with hj
  subst hj
  exact grow _ (ha e he hb)
 ·rw [Array.getD_eq_getD_getElem?, Array.getElem?_setIfInBounds_ne c, ← Array.getD_eq_getD_getElem?] at hl
  exact grow _ (hd.closed j o' e hj hl he hb)
theorem any_ok {pn : Option Pin} (hF : FnsOk P G F) {ops : Array Oper} {M : List Nat} (hm : masksOk ops M = true) {op : Nat → Opr} {T : Nat → List Nat × List Nat} {sf : St} {Q : Exit → Act → World → Prop} {x0 : Cx} {h0 : Heap} {d0 : List Deferred}
  (hop : ∀ j, j < ops.size → ∃ o an, ops[j]? = some o ∧ trOpr P ops o an = some (op j))
  (hap : ∀ i j, i < j → j < ops.size → (M.getD j 0).testBit i = false → apart (op i) (op j) = true ∧ (disj (T i) (T j) = true ∨ ∃ p, pn = some p ∧ p.ix = j))
  (hQ : ∀ x' a', RelS G x' sf a' → Step (fun _ => True) x0 h0 x' sf.h → a'.defers = d0 → Q .normal a' x'.w) :
  ∀ (fuel : Nat) (listed : Array Bool) {x : Cx} {s : St} {a : Act}, (rest ops.size listed).length ≤ fuel → Down ops listed → Good G F pn op T sf (rest ops.size listed) s → RelS G x s a → Step (fun _ => True) x0 h0 x s.h → a.defers = d0 →
   wpAny P .any ops Q fuel listed a x.w
 | 0, listed, x, s, a, hl, hd, hg, hs, hst, hdf => by
  have hr : rest ops.size listed = [] := by
   cases h : rest ops.size listed with
   | nil => rfl
   | cons i r => rw [h] at hl; simp at hl
  rw [hr] at hg
  obtain rfl : s = sf := hg.1
  refine ⟨?_, hQ x a hs hst hdf⟩
  cases h : Region.ready .any ops listed with
  | nil => rfl
  | cons i r =>
   have := (ready_mem (i := i) (by rw [h]; simp)).1
   rw [hr] at this
   simp at this
 | fuel + 1, listed, x, s, a, hl, hd, hg, hs, hst, hdf => by
  refine ⟨fun hn => ?_, fun i hi => ?_⟩
  ·rw [ready_nil hm hd hn] at hg
   obtain rfl : s = sf := hg.1
   exact hQ x a hs hst hdf
  ·obtain ⟨h1, o, ho, ha⟩ := ready_mem hi
   obtain ⟨r1, r2, hr⟩ := List.append_of_mem h1
   obtain ⟨h2, h3, h4⟩ := rest_set hd.size hr
   rw [hr] at hg hl
   have hi' : i < ops.size := (Array.getElem?_eq_some_iff.1 ho).1
   obtain ⟨_, _, s1, g1, g2, g3⟩ := Good.bubble r1 s hg fun j hj => hap j i (h3 j hj) hi' (by
    cases hb : (M.getD i 0).testBit j with
    | false => rfl
    | true =>
     have h5 := masks_listed hm hd i o ho ha j (h3 j hj) hb
     have h6 := h4 j hj
     have hlt : j < listed.size := by have := h3 j hj; rw [hd.size]; omega
     rw [Array.getD_eq_getD_getElem?, Array.getElem?_eq_getElem hlt] at h5 h6
     simp at h5 h6
     rw [h5] at h6
     simp at h6)
   obtain ⟨o', an, ho', htr⟩ := hop i hi'
   refine evOp_ok hF ho' htr hs g1 fun x' a' hs' hst' hd' => ?_
   refine any_ok hF hm hop hap hQ fuel (listed.setIfInBounds i true) (by rw [h2]; simp at hl ⊢; omega) (hd.set ho ha) (by rw [h2]; exact g3) hs' (hst.trans hst') (hd'.trans hdf)
theorem noFp_ok {o : Op1} (h : o.noFp = true) (t : List AV) (k : Heap) : fp G t k o = [] := by
 cases o <;> simp only [Op1.noFp] at h <;> first
  | rfl
  | (simp at h; done)
  | (simp only [fp]; simpa using h)
theorem free1_foot {o : Opr} (h : free1 o = true) (s : St) : foot G o s = ([], []) := by
 simp only [free1, Bool.and_eq_true, List.isEmpty_iff] at h
 unfold foot
 split
 ·split
  ·simp [h.1, noFp_ok h.2]
  ·rfl
 ·rfl
theorem rdonly_foot {o : Opr} (h : rdonly o = true) (s : St) : (foot G o s).2 = [] := by
 simp only [rdonly, Bool.and_eq_true, List.isEmpty_iff, decide_eq_true_eq] at h
 unfold foot
 split
 ·split
  ·simp [h.1, h.2]
  ·rfl
 ·rfl
theorem feet_get : ∀ (qs : List Opr) (s : St) (k : Nat), (feet G F qs s).getD k ([], []) = ([], []) ∨ ∃ s', (feet G F qs s).getD k ([], []) = foot G (opAt qs k) s'
 | [], s, k => .inl (by simp [feet])
 | q :: qs, s, 0 => .inr ⟨s, by simp [feet, opAt]⟩
 | q :: qs, s, k + 1 => by
  simp only [feet, List.getD_cons_succ]
  cases h : evOp G F q s with
  | none => exact .inl (by simp)
  | some s1 =>
   rcases feet_get qs s1 k with h1 | ⟨s', h1⟩
   ·exact .inl h1
   ·exact .inr ⟨s', by simpa [opAt] using h1⟩
theorem disj_nil_left (b : List Nat × List Nat) : disj ([], []) b = true := by simp [disj, disjL]
theorem disj_nil_right (b : List Nat × List Nat) : disj b ([], []) = true := by simp [disj, disjL]
theorem freePair_disj {qs : List Opr} {s : St} {i j : Nat} (h : freePair (opAt qs i) (opAt qs j) = true) : disj ((feet G F qs s).getD i ([], [])) ((feet G F qs s).getD j ([], [])) = true := by
 rcases feet_get (G := G) (F := F) qs s i with h1 | ⟨s1, h1⟩
 ·rw [h1]; exact disj_nil_left _
 ·rcases feet_get (G := G) (F := F) qs s j with h2 | ⟨s2, h2⟩
  ·rw [h2]; exact disj_nil_right _
  ·rw [h1, h2]
   simp only [freePair, Bool.or_eq_true, Bool.and_eq_true] at h
   rcases h with (h | h) | h
   ·rw [free1_foot h]; exact disj_nil_left _
   ·rw [free1_foot h]; exact disj_nil_right _
   ·have e1 := rdonly_foot (G := G) h.1 s1
    have e2 := rdonly_foot (G := G) h.2 s2
    simp [disj, disjL, e1, e2]
theorem okPairs_pn {pairs : List (Nat × Nat)} {qs : List Opr} {s : St} (hp : okPairs G F pairs qs s = true) : ∃ pn : Option Pin, (∀ p, pn = some p → ((sts G F qs s).all fun s => pinAt p s.h) = true) ∧ (∀ p, pn = some p → pinLdL G p p.ix qs (sts G F qs s) = true) ∧
  ∀ i j, i < j → (i, j) ∈ pairs → disj ((feet G F qs s).getD i ([], [])) ((feet G F qs s).getD j ([], [])) = true ∨ ∃ p, pn = some p ∧ p.ix = j := by
 unfold okPairs okPr at hp
 split at hp
 ·rename_i p ps hpn
  simp only [Bool.and_eq_true] at hp
  obtain ⟨h1, h2, h3⟩ := hp
  refine ⟨some p, fun q hq => by cases hq; exact h1, fun q hq => by cases hq; exact h2, fun i j hij hm => ?_⟩
  unfold pinOf at hpn
  split at hpn
  ·rename_i m a v ps'
   split at hpn
   ·rename_i hc
    simp only [Option.some.injEq, Prod.mk.injEq] at hpn
    obtain ⟨_, rfl⟩ := hpn
    have hmem : (i, j) ∈ ps' := by
     simp only [List.mem_cons] at hm
     rcases hm with rfl | rfl | rfl | hm
     ·simp only at hc; omega
     ·simp only at hc; omega
     ·simp only at hc; omega
     ·exact hm
    have h4 := List.all_eq_true.1 h3 (i, j) hmem
    simp only [Bool.or_eq_true, beq_iff_eq] at h4
    rcases h4 with h4 | h4
    ·exact .inr ⟨p, rfl, h4.symm⟩
    ·exact .inl h4
   ·simp at hpn
  ·simp at hpn
 ·exact ⟨none, fun p h => (by cases h), fun p h => (by cases h), fun i j _ hm => .inl (List.all_eq_true.1 hp (i, j) hm)⟩
theorem region_ok (hF : FnsOk P G F) {id : Nat} {ops : Array Oper} {draw : Bool} {pairs : List (Nat × Nat)} {an qs : List Opr} (htr : trReg P ops draw pairs an = some qs) (hs : RelS G x st a) (hp : okPairs G F pairs qs st = true) {st' : St} (he : evOps G F qs st = some st')
  {Q : Exit → Act → World → Prop} (hQ : ∀ x' a', RelS G x' st' a' → Step (fun _ => True) x st.h x' st'.h → a'.defers = a.defers → Q .normal a' x'.w) : (Code.region id ops draw).wp P Q a x.w := by
 unfold trReg at htr
 split at htr
 ·rename_i qs' htr'
  split at htr
  ·rename_i hc
   simp only [Option.some.injEq] at htr
   subst htr
   obtain ⟨hlen, hat⟩ := trOprs_at htr'
   have hlen' : qs'.length = ops.size := by simpa using hlen
   have hop : ∀ j, j < ops.size → ∃ o an, ops[j]? = some o ∧ trOpr P ops o an = some (opAt qs' j) := fun j hj => by
    have ho : ops[j]? = some ops[j] := Array.getElem?_eq_getElem hj
    obtain ⟨an', h⟩ := hat j ops[j] (by simp)
    exact ⟨_, an', ho, h⟩
   obtain ⟨pn, hpC, hpI, hpp⟩ := okPairs_pn hp
   have hgood := good_of_ops (pn := pn) (op := opAt qs') qs' 0 st st' (fun k => (feet G F qs' st).getD k ([], [])) (fun k hk => by simp [opAt, List.getD, hk]) (fun k hk => by simp) hpC (fun p h1 _ => by rw [Nat.sub_zero]; exact hpI p h1) he
   rw [hlen'] at hgood
   cases draw with
   | false =>
    refine wp_region ?_
    rw [List.range_eq_range']
    exact good_wp hF hQ _ (fun j hj => hop j (by simpa [List.mem_range'] using hj)) hgood hs (Step.refl _ _ _) rfl
   | true =>
    simp only [Bool.not_true, Bool.false_or, Bool.and_eq_true] at hc
    obtain ⟨⟨hmix, hmask⟩, hpairs⟩ := hc
    refine wp_region_any hmix ?_
    have hst0 := Step.sameHeap (x := x) (h := st.h) (w' := { x.w with drawn := x.w.drawn + 1 }) rfl rfl rfl rfl
    have hi0 := hs.inv.sameHeap (w' := { x.w with drawn := x.w.drawn + 1 }) rfl rfl rfl rfl
    have hs0 := hs.step' hi0 hst0
    have hrest : rest ops.size (Array.replicate ops.size false) = List.range' 0 ops.size := by
     rw [← List.range_eq_range']
     exact List.filter_eq_self.2 fun k hk => by
      have := List.mem_range.1 hk
      simp [Array.getD_eq_getD_getElem?, this]
    exact any_ok hF hmask (op := opAt qs') (T := fun k => (feet G F qs' st).getD k ([], [])) hop (fun i j hij hj hb => by
     have h1 := List.all_eq_true.1 (List.all_eq_true.1 hpairs j (List.mem_range.2 hj)) i (List.mem_range.2 hij)
     rw [hb] at h1
     simp only [Bool.false_or, Bool.and_eq_true, Bool.or_eq_true] at h1
     refine ⟨h1.1, ?_⟩
     rcases h1.2 with h2 | h2
     ·exact .inl (freePair_disj (G := G) (F := F) (s := st) h2)
     ·exact hpp i j hij (by simpa using h2)) (fun x' a' hs' hst' hd' => hQ x' a' hs' (hst0.trans hst') hd') ops.size _ (by rw [hrest]; simp) ⟨by simp, fun j o e _ hl _ _ => by
      by_cases hj : j < ops.size <;> simp [Array.getD_eq_getD_getElem?, hj] at hl⟩ (by rw [hrest]; exact hgood) hs0 (Step.refl _ _ _) rfl
  ·simp at htr
 ·simp at htr
end
end Go.Ev
set_option linter.unusedSimpArgs false
set_option linter.unusedVariables false
namespace Go.Ev
def trIR (P : Program) : Code → IR → Option IR
 | .skip, _ => some .skip
 | .region _ ops draw, .reg pairs l => (trReg P ops draw pairs l).map (.reg pairs)
 | .seq a b, .seq x y => match trIR P a x, trIR P b y with
  | some x', some y' => some (.seq x' y')
  | _, _ => none
 | .cond c a b, .cond _ x y => match trIR P a x, trIR P b y with
  | some x', some y' => some (.cond (trO c) x' y')
  | _, _ => none
 | .block id a, .block _ k x => (trIR P a x).map (.block id k)
 | .loop a, .loop k x => (trIR P a x).map (.loop k)
 | .exit id, .exit _ k => some (.exit id k)
 | .ret, .ret k => some (.ret k)
 | _, _ => none
def trRes (P : Program) : List ResultVar → Option (List Res)
 | [] => some []
 | .tmp t :: r => (trRes P r).map (.tmp t :: ·)
 | .cell t ty :: r => match tagg P ty, tsize P ty, trRes P r with
  | some ag, some sz, some l => some (.cell t ag sz :: l)
  | _, _, _ => none
def trFn (P : Program) (f : Func) (an : Fn) : Option Fn := match f.body with
 | some c => match trIR P c an.body, trRes P f.results.toList with
  | some b, some r => if f.name == "runtime.NumGoroutine" then none else some ⟨an.na, f.ntmps, an.ns, b, r, an.keep, an.nilq, an.raw, an.young⟩
  | _, _ => none
 | none => none
theorem refsL_age (l : List AV) : refsL (ageL true l) = refsL l := by
 rw [ageL_eq, refsL_tr]
 simp
theorem RelV.ageL {x : Cx} {h : Heap} {l : List AV} {us : List Value} (hr : ∀ (i : Nat) (b : AV) (v : Value), l[i]? = some b → us[i]? = some v → RelV x h b v) :
  ∀ (i : Nat) (b : AV) (v : Value), (Ev.ageL true l)[i]? = some b → us[i]? = some v → RelV x h b v := fun i b v h1 h2 => by
 rw [ageL_eq, trL_map, List.getElem?_map, Option.map_eq_some_iff] at h1
 obtain ⟨b0, h3, rfl⟩ := h1
 refine (hr i b0 v h3 h2).tr (ob := true) (fun o b q _ hS => ⟨⟨hS.1, .inl rfl⟩, rfl⟩) (fun _ => rfl) fun id _ => ⟨fun cs hg => ⟨⟨cs, hg⟩, rfl⟩, fun e s o f l hg => ⟨o, f, hg, rfl, rfl⟩, fun d hg => ⟨hg, rfl⟩⟩
theorem reachN_nodup : ∀ (n : Nat) (h : Heap) (w seen : List Nat), seen.Nodup → (reachN n h w seen).Nodup
 | 0, _, _, _, hn => hn
 | n + 1, _, [], _, hn => hn
 | n + 1, h, i :: w, seen, hn => by
  simp only [reachN]
  split
  ·exact reachN_nodup n h w seen hn
  ·rename_i hc
   refine reachN_nodup n h _ _ ?_
   refine List.nodup_append.2 ⟨hn, by simp, fun a ha b hb hab => ?_⟩
   simp only [List.mem_singleton] at hb
   subst hb; subst hab
   simp at hc
   exact hc ha
theorem getO_prune {ns : Nat} {ids : List Nat} {h : Heap} {i : Nat} : getO (prune ns ids h) i = if i < ns ∧ i ∉ ids then none else getO h i := by
 simp only [prune, getO, List.getD_eq_getElem?_getD, List.getElem?_mapIdx]
 cases h1 : h[i]? with
 | none => simp
 | some o =>
  by_cases c1 : i < ns <;> by_cases c2 : i ∈ ids <;> simp [c1, c2]
theorem keepT_get : ∀ (ks : List Bool) (t : List AV) (i : Nat), (keepT ks t).getD i .undef = t.getD i .undef ∨ (keepT ks t).getD i .undef = .undef
 | [], t, i => .inl rfl
 | true :: k, [], i => .inl rfl
 | false :: k, [], i => .inl rfl
 | true :: k, v :: r, 0 => .inl rfl
 | false :: k, v :: r, 0 => .inr rfl
 | true :: k, v :: r, i + 1 => by simpa [keepT] using keepT_get k r i
 | false :: k, v :: r, i + 1 => by simpa [keepT] using keepT_get k r i
theorem keepT_len : ∀ (ks : List Bool) (t : List AV), (keepT ks t).length = t.length
 | [], t => rfl
 | true :: k, [] => rfl
 | false :: k, [] => rfl
 | true :: k, v :: r => by simp [keepT, keepT_len k r]
 | false :: k, v :: r => by simp [keepT, keepT_len k r]
theorem mem_refsL_getD {l : List AV} {id : Nat} (h : id ∈ refsL l) : ∃ i, i < l.length ∧ id ∈ (l.getD i .undef).refs := by
 obtain ⟨i, a, h1, h2⟩ := mem_refsL_iff.1 h
 exact ⟨i, (List.getElem?_eq_some_iff.1 h1).1, by simpa [List.getD, h1] using h2⟩
section
variable {P : Program} {G : Cf} {F : FnEv} {x : Cx} {st : St} {a : Act}
abbrev SStep (ns : Nat) := Step (fun id => ns ≤ id)
theorem keep_rel (hs : RelS G x st a) (ks : List Bool) : RelS G x ⟨keepT ks st.t, st.h⟩ a where
 inv := hs.inv
 b0 := hs.b0
 size := by simpa [keepT_len] using hs.size
 vals := fun i hi => by
  simp only [keepT_len] at hi
  rcases keepT_get ks st.t i with h | h <;> rw [h]
  ·exact hs.vals i hi
  ·exact .undef _
 live := fun id hid => by
  obtain ⟨i, _, h2⟩ := mem_refsL_getD hid
  rcases keepT_get ks st.t i with h | h <;> rw [h] at h2
  ·exact hs.live id (getD_mem h2)
  ·simp [AV.refs] at h2
theorem prune_ok {t : List AV} (hs : RelS G x ⟨t, st.h⟩ a) {ns : Nat} {ids : List Nat} (hc : closed st.h (refsL t ++ List.range' ns (st.h.length - ns)) ids = true) : RelS G x ⟨t, prune ns ids st.h⟩ a ∧ SStep ns x st.h x (prune ns ids st.h) := by
 obtain ⟨h1, h2, h3⟩ := closed_spec hc
 have sub : ∀ {id : Nat} {o : Obj}, getO (prune ns ids st.h) id = some o → getO st.h id = some o ∧ (id < ns → id ∈ ids) := fun {id o} hg => by
  rw [getO_prune] at hg
  split at hg
  ·simp at hg
  ·rename_i hn
   exact ⟨hg, fun hlt => by
    by_cases c : id ∈ ids
    ·exact c
    ·exact absurd ⟨hlt, c⟩ hn⟩
 have big : ∀ {id : Nat}, ns ≤ id → getO (prune ns ids st.h) id = getO st.h id := fun {id} hid => by
  rw [getO_prune, if_neg (by omega)]
 have inids : ∀ {id : Nat}, id ∈ ids → getO (prune ns ids st.h) id = getO st.h id := fun {id} hid => by
  rw [getO_prune, if_neg (fun c => c.2 hid)]
 have mem : ∀ {id : Nat} {o : Obj}, getO (prune ns ids st.h) id = some o → id ∈ ids := fun {id o} hg => by
  obtain ⟨g1, g2⟩ := sub hg
  by_cases c : id < ns
  ·exact g2 c
  ·refine h1 id ?_
   have := getO_lt (by rw [g1]; rfl : (getO st.h id).isSome)
   simp only [List.mem_append, List.mem_range'_1]
   exact .inr ⟨by omega, by omega⟩
 have evoAll : ∀ {id : Nat}, id ∈ ids → Evo x st.h x (prune ns ids st.h) id := fun hid => .same (inids hid) rfl rfl
 have hst : SStep ns x st.h x (prune ns ids st.h) := {
  ext := Ext.refl x
  size := Nat.le_refl _
  evo := fun id hd hsm => ⟨.same (big hd) rfl rfl, by rw [big hd]; exact hsm⟩
  frame := fun _ _ _ _ => rfl
  sgrow := fun _ _ hS => .inl hS
  bfresh := fun id d b hg hb => .inl ⟨id, d, (sub hg).1, hb⟩
  fresh := fun id ob hg hm => .inl ⟨id, ob, (sub hg).1, hm, rfl⟩
  frow := fun id ob hg hm => .inl ⟨id, ob, (sub hg).1, hm, fun h => h, rfl⟩
  os := rfl
  tape := rfl
  output := rfl
  nf := fun _ h => h }
 have hinv : Inv G x (prune ns ids st.h) := {
  obj := fun id o hg => (hs.inv.obj id o (sub hg).1).mono (Ext.refl x) rfl rfl rfl (fun j hj => evoAll (h3 id o (mem hg) (sub hg).1 j hj)) fun d _ => ⟨rfl, fun _ _ => rfl, fun _ _ _ h => h⟩
  bgo := hs.inv.bgo
  big := fun id d hg b hb => let ⟨k1, k2, k3⟩ := hs.inv.big id d (sub hg).1 b hb; ⟨k1, fun i o hgi => k2 i o (sub hgi).1, fun i d' hgi => k3 i d' (sub hgi).1⟩
  inj := fun i j oi oj gi gj => hs.inv.inj i j oi oj (sub gi).1 (sub gj).1
  own := fun id o hg => hs.inv.own id o (sub hg).1
  sh := hs.inv.sh
  live := fun id o hg j hj => by
   rw [inids (h3 id o (mem hg) (sub hg).1 j hj)]
   exact hs.inv.live id o (sub hg).1 j hj
  glob := hs.inv.glob }
 have hroot : ∀ id ∈ refsL t, id ∈ ids := fun id hid => h1 id (by simp [hid])
 refine ⟨⟨hinv, hs.b0, hs.size, fun i hi => (hs.vals i hi).mono (Ext.refl x) fun id hid => evoAll (hroot id (getD_mem hid)), fun id hid => ?_⟩, hst⟩
 rw [inids (hroot id hid)]
 exact hs.live id hid
theorem getO_age (h : Heap) (id : Nat) : getO (h.map (Option.map (Obj.age true))) id = (getO h id).map (Obj.age true) := by
 simp only [getO, List.getD_eq_getElem?_getD, List.getElem?_map]
 cases h[id]? with
 | none => rfl
 | some o => simp
theorem Obj.age_eq (o : Obj) : o.age true = o.tr (fun i => i) (fun _ => true) := by
 cases o <;> simp [Obj.age, Obj.tr, ageL_eq]
theorem age_ok (hs : RelS G x st a) (ns : Nat) : RelS G x ⟨ageL true st.t, st.h.map (Option.map (Obj.age true))⟩ a ∧ SStep ns x st.h x (st.h.map (Option.map (Obj.age true))) := by
 have hSh : TrSh x x (fun _ => true) true := fun o b q _ hS => ⟨⟨hS.1, .inl rfl⟩, rfl⟩
 have hget : ∀ {id : Nat} {ob : Obj}, getO (st.h.map (Option.map (Obj.age true))) id = some ob → ∃ ob0, getO st.h id = some ob0 ∧ ob = ob0.tr (fun i => i) (fun _ => true) := fun {id ob} hg => by
  rw [getO_age, Option.map_eq_some_iff] at hg
  obtain ⟨ob0, h1, rfl⟩ := hg
  exact ⟨ob0, h1, Obj.age_eq ob0⟩
 have hlive : ∀ id, (getO st.h id).isSome → (getO (st.h.map (Option.map (Obj.age true))) id).isSome := fun id h => by
  rw [getO_age]
  simpa using h
 have hId : ∀ id, TrId x st.h x (st.h.map (Option.map (Obj.age true))) (fun i => i) id := fun id => by
  refine ⟨fun cs hg => ?_, fun e s o f l hg => ?_, fun d hg => ?_⟩
  rotate_left 2
  ·obtain ⟨ob0, h1, h2⟩ := hget hg
   cases ob0 <;> simp [Obj.tr] at h2
   subst h2
   exact ⟨h1, rfl⟩
  ·obtain ⟨ob0, h1, h2⟩ := hget hg
   cases ob0 <;> simp [Obj.tr] at h2
   exact ⟨⟨_, h1⟩, rfl⟩
  ·obtain ⟨ob0, h1, h2⟩ := hget hg
   cases ob0 <;> simp [Obj.tr] at h2
   obtain ⟨rfl, rfl, rfl, rfl, rfl⟩ := h2
   exact ⟨_, _, h1, rfl, rfl⟩
 have hmut : ∀ ob0 : Obj, (ob0.tr (fun i => i) fun _ => true).mut → ob0.mut := fun ob0 h => by cases ob0 <;> exact h
 have hevo : ∀ id, Evo x st.h x (st.h.map (Option.map (Obj.age true))) id := fun id => by
  obtain ⟨h1, h2, h4⟩ := hId id
  refine ⟨fun cs hg => h1 cs hg, fun e s o f l hg => ?_, fun d hg => ⟨⟨d, (h4 d hg).1⟩, (h4 d hg).2⟩⟩
  obtain ⟨o', f', h3, _⟩ := h2 e s o f l hg
  exact ⟨o', f', l, h3, Nat.le_refl _, fun _ => ⟨rfl, rfl⟩⟩
 have hst : SStep ns x st.h x (st.h.map (Option.map (Obj.age true))) := {
  ext := Ext.refl x
  size := Nat.le_refl _
  evo := fun id _ hsm => ⟨hevo id, hlive id hsm⟩
  frame := fun _ _ _ _ => rfl
  sgrow := fun _ _ hS => .inl hS
  bfresh := fun id d b hg hb => .inl ⟨id, d, ((hId id).big d hg).1, hb⟩
  fresh := fun id ob hg hm => by
   obtain ⟨ob0, h1, rfl⟩ := hget hg
   exact .inl ⟨id, ob0, h1, hmut _ hm, rfl⟩
  frow := fun id ob hg hm => by
   obtain ⟨ob0, h1, rfl⟩ := hget hg
   exact .inl ⟨id, ob0, h1, by cases ob0 <;> exact hm, fun h => hmut _ h, rfl⟩
  os := rfl
  tape := rfl
  output := rfl
  nf := fun _ h => h }
 refine ⟨⟨⟨hs.inv.bgo, fun id ob hg => ?_, fun i j oi oj gi gj di dj hp => ?_, fun id ob hg hm q hS => ?_, hs.inv.sh, fun id ob hg j hj => ?_, hs.inv.glob, fun id d hg b hb => ?_⟩, hs.b0, ?_, fun i hlt => ?_, fun id hid => ?_⟩, hst⟩
 ·obtain ⟨ob0, h1, rfl⟩ := hget hg
  exact (hs.inv.obj id ob0 h1).tr (r := fun i => i) hSh (fun _ => rfl) (fun j _ => hId j) rfl rfl rfl (fun e s o0 f l _ hf => by simp at hf) fun d _ => ⟨rfl, rfl, fun _ _ => rfl, fun _ _ _ h => h⟩
 ·obtain ⟨o1, h1, rfl⟩ := hget gi
  obtain ⟨o2, h2, rfl⟩ := hget gj
  exact hs.inv.inj i j o1 o2 h1 h2 (by rintro rfl; exact di rfl) (by rintro rfl; exact dj rfl) hp
 ·obtain ⟨ob0, h1, rfl⟩ := hget hg
  exact hs.inv.own id ob0 h1 (hmut _ hm) q hS
 ·obtain ⟨ob0, h1, rfl⟩ := hget hg
  rw [Obj.refs_tr, List.map_id'] at hj
  exact hlive j (hs.inv.live id ob0 h1 j hj)
 ·obtain ⟨k1, k2, k3⟩ := hs.inv.big id d ((hId id).big d hg).1 b hb
  refine ⟨k1, fun i o hgi hd hp => ?_, fun i d' hgi => k3 i d' ((hId i).big d' hgi).1⟩
  obtain ⟨o0, h1, rfl⟩ := hget hgi
  exact k2 i o0 h1 (by rintro rfl; exact hd rfl) hp
 ·rw [ageL_eq, trL_map]
  simpa using hs.size
 ·have ht : (ageL true st.t).getD i .undef = (st.t.getD i .undef).tr (fun i => i) (fun _ => true) := by
   rw [ageL_eq, trL_map]
   simp only [List.getD_eq_getElem?_getD, List.getElem?_map]
   cases st.t[i]? <;> rfl
  simp only [ht]
  rw [ageL_eq, trL_map] at hlt
  exact (hs.vals i (by simpa using hlt)).tr hSh (fun _ => rfl) fun id _ => hId id
 ·rw [refsL_age] at hid
  exact hlive id (hs.live id hid)
theorem clean_ok (hs : RelS G x st a) (ns : Nat) (ks : List Bool) : RelS G x (clean ns ks st) a ∧ SStep ns x st.h x (clean ns ks st).h := by
 unfold clean
 cases decide (st.t.length < ks.length) with
 | true =>
  have h1 := keep_rel hs ks
  simp only [if_true]
  split
  ·rename_i hc
   exact prune_ok (st := ⟨keepT ks st.t, st.h⟩) h1 hc
  ·exact ⟨h1, Step.refl _ _ _⟩
 | false =>
  obtain ⟨h1, h2⟩ := age_ok (keep_rel hs ks) ns
  simp only [Bool.false_eq_true, if_false]
  split
  ·rename_i hc
   obtain ⟨h3, h4⟩ := prune_ok (st := ⟨ageL true (keepT ks st.t), st.h.map (Option.map (Obj.age true))⟩) h1 hc
   exact ⟨h3, h2.trans h4⟩
  ·exact ⟨h1, h2⟩
def exM : Ex → Exit
 | .normal => .normal
 | .exit id => .exit id
 | .ret => .ret
theorem evIR_ok (hF : FnsOk P G F) (n ns : Nat) : ∀ (code : Code) (an ir : IR) {x : Cx} {st : St} {a : Act} {ex : Ex} {st' : St} {Q : Exit → Act → World → Prop}, trIR P code an = some ir → RelS G x st a → evIR G (fun s st => loopN n s st) F ns ir st = some (ex, st') →
  (∀ x' a', RelS G x' st' a' → SStep ns x st.h x' st'.h → a'.defers = a.defers → Q (exM ex) a' x'.w) → code.wp P Q a x.w := by
 intro code
 induction code with
 | skip =>
  intro an ir x st a ex st' Q htr hs he hQ
  cases an <;> simp only [trIR, Option.some.injEq] at htr <;> (subst htr; simp only [evIR, Option.some.injEq, Prod.mk.injEq] at he; obtain ⟨rfl, rfl⟩ := he; exact wp_skip (hQ x a hs (Step.refl _ _ _) rfl))
 | region id ops draw =>
  intro an ir x st a ex st' Q htr hs he hQ
  cases an <;> simp only [trIR] at htr <;> first
   | (simp at htr; done)
   | skip
  obtain ⟨qs, h1, rfl⟩ := Option.map_eq_some_iff.1 htr
  simp only [evIR] at he
  split at he
  ·rename_i hp
   split at he
   ·rename_i s1 h2
    simp only [Option.some.injEq, Prod.mk.injEq] at he
    obtain ⟨rfl, rfl⟩ := he
    exact region_ok hF h1 hs hp h2 fun x' a' hs' hst hd => hQ x' a' hs' (hst.weaken fun _ _ => trivial) hd
   ·simp at he
  ·simp at he
 | seq c d ihc ihd =>
  intro an ir x st a ex st' Q htr hs he hQ
  cases an <;> simp only [trIR] at htr <;> first
   | (simp at htr; done)
   | skip
  split at htr
  ·rename_i x1 y1 h1 h2
   simp only [Option.some.injEq] at htr
   subst htr
   refine wp_seq ?_
   simp only [evIR] at he
   split at he
   ·rename_i s1 h3
    exact ihc _ _ h1 hs h3 fun x' a' hs' hst hd => ihd _ _ h2 hs' he fun x2 a2 hs2 hst2 hd2 => hQ x2 a2 hs2 (hst.trans hst2) (hd2.trans hd)
   ·rename_i r hne
    have he' := he
    refine ihc _ _ h1 hs he fun x' a' hs' hst hd => ?_
    have := hQ x' a' hs' hst hd
    cases ex with
    | normal => exact absurd he' (hne st')
    | exit id => exact this
    | ret => exact this
  ·simp at htr
 | cond c d e ihd ihe =>
  intro an ir x st a ex st' Q htr hs he hQ
  cases an <;> simp only [trIR] at htr <;> first
   | (simp at htr; done)
   | skip
  split at htr
  ·rename_i x1 y1 h1 h2
   simp only [Option.some.injEq] at htr
   subst htr
   have hv := hs.opd c
   simp only [evIR] at he
   split at he
   ·rename_i hc
    rw [hc] at hv
    exact wp_cond_true hv.s_inv (ihd _ _ h1 hs he hQ)
   ·rename_i hc
    rw [hc] at hv
    exact wp_cond_false hv.s_inv (ihe _ _ h2 hs he hQ)
   ·simp at he
  ·simp at htr
 | block id c ih =>
  intro an ir x st a ex st' Q htr hs he hQ
  cases an <;> simp only [trIR] at htr <;> first
   | (simp at htr; done)
   | skip
  rename_i id' ks y
  obtain ⟨y', h1, rfl⟩ := Option.map_eq_some_iff.1 htr
  refine wp_block ?_
  simp only [evIR] at he
  split at he
  ·rename_i i s1 h2
   split at he
   ·rename_i hi
    simp only [Option.some.injEq, Prod.mk.injEq] at he
    obtain ⟨rfl, rfl⟩ := he
    refine ih _ _ h1 hs h2 fun x' a' hs' hst hd => ?_
    simp only [exM, Exit.inBlock, if_pos hi]
    exact hQ x' a' hs' hst hd
   ·rename_i hi
    simp only [Option.some.injEq, Prod.mk.injEq] at he
    obtain ⟨rfl, rfl⟩ := he
    refine ih _ _ h1 hs h2 fun x' a' hs' hst hd => ?_
    simp only [exM, Exit.inBlock, if_neg hi]
    exact hQ x' a' hs' hst hd
  ·rename_i s1 h2
   simp only [Option.some.injEq, Prod.mk.injEq] at he
   obtain ⟨rfl, rfl⟩ := he
   refine ih _ _ h1 hs h2 fun x' a' hs' hst hd => ?_
   obtain ⟨hs2, hst2⟩ := clean_ok hs' ns ks
   exact hQ x' a' hs2 (hst.trans hst2) hd
  ·rename_i r hn1 hn2
   refine ih _ _ h1 hs he fun x' a' hs' hst hd => ?_
   have := hQ x' a' hs' hst hd
   cases ex with
   | normal => exact absurd he (hn2 st')
   | exit i => exact absurd he (hn1 i st')
   | ret => exact this
 | loop c ih =>
  intro an ir x st a ex st' Q htr hs he hQ
  cases an <;> simp only [trIR] at htr <;> first
   | (simp at htr; done)
   | skip
  rename_i ks y
  obtain ⟨y', h1, rfl⟩ := Option.map_eq_some_iff.1 htr
  simp only [evIR] at he
  let x0 := x
  let h0 := st.h
  let d0 := a.defers
  obtain ⟨hs0, hst0⟩ := clean_ok hs ns ks
  refine wp_loop_ghost (fun k a' w' => ∃ x' s, x'.w = w' ∧ RelS G x' s a' ∧ SStep ns x0 h0 x' s.h ∧ a'.defers = d0 ∧ loopN k (fun st => loopEnd ns ks (evIR G (fun s st => loopN n s st) F ns y' st)) s = some (ex, st')) n
   ⟨x, _, rfl, hs0, hst0, rfl, he⟩ ?_
  rintro k a' w' ⟨x', s, rfl, hs', hst, hd, hl⟩
  cases k with
  | zero => simp [loopN] at hl
  | succ k =>
   simp only [loopN] at hl
   split at hl
   ·rename_i s1 h2
    unfold loopEnd at h2
    split at h2
    ·rename_i s2 h3
     simp only [Option.some.injEq, Prod.mk.injEq, true_and] at h2
     refine ih _ _ h1 hs' h3 fun x2 a2 hs3 hst3 hd3 => ?_
     obtain ⟨hs4, hst4⟩ := clean_ok hs3 ns ks
     subst h2
     exact ⟨k, Nat.lt_succ_self k, x2, _, rfl, hs4, (hst.trans hst3).trans hst4, hd3.trans hd, hl⟩
    ·rename_i hn
     exact absurd h2 (hn s1)
   ·rename_i hn
    unfold loopEnd at hl hn
    split at hl
    ·rename_i s2 h3
     rw [h3] at hn
     exact absurd rfl (hn _)
    ·refine ih _ _ h1 hs' hl fun x2 a2 hs3 hst3 hd3 => ?_
     have := hQ x2 a2 hs3 (hst.trans hst3) (hd3.trans hd)
     cases ex with
     | normal => rename_i hnn; exact absurd hl (hnn st')
     | exit i => exact this
     | ret => exact this
 | exit id =>
  intro an ir x st a ex st' Q htr hs he hQ
  cases an <;> simp only [trIR, Option.some.injEq] at htr <;> first
   | (simp at htr; done)
   | skip
  rename_i id' ks
  subst htr
  simp only [evIR, Option.some.injEq, Prod.mk.injEq] at he
  obtain ⟨rfl, rfl⟩ := he
  obtain ⟨hs2, hst2⟩ := clean_ok hs ns ks
  exact wp_exit (hQ x a hs2 hst2 rfl)
 | ret =>
  intro an ir x st a ex st' Q htr hs he hQ
  cases an <;> simp only [trIR, Option.some.injEq] at htr <;> first
   | (simp at htr; done)
   | skip
  rename_i ks
  subst htr
  simp only [evIR, Option.some.injEq, Prod.mk.injEq] at he
  obtain ⟨rfl, rfl⟩ := he
  obtain ⟨hs2, hst2⟩ := clean_ok hs ns ks
  exact wp_ret (hQ x a hs2 hst2 rfl)
 | _ =>
  intro an ir x st a ex st' Q htr hs he hQ
  cases an <;> simp [trIR] at htr
def rv1 (tmps : Array Value) : ResultVar → Sem Value
 | .tmp t => pure (tmps.getD t undef)
 | .cell b t => do loadVar t (← asAddr (tmps.getD b undef))
theorem resOf_ok (hs : RelS G x st a) : ∀ (rv : List ResultVar) (rr : List Res) {rs : List AV}, trRes P rv = some rr → resOf st rr = some rs →
  ∃ us : List Value, (rv.mapM (rv1 a.tmps)).run P x.w = Result.ok us x.w ∧ rs.length = us.length ∧
   (∀ (i : Nat) (b : AV) (v : Value), rs[i]? = some b → us[i]? = some v → RelV x st.h b v) ∧ Live st.h rs
 | [], rr, rs, h1, h2 => by
  simp only [trRes, Option.some.injEq] at h1
  subst h1
  simp only [resOf, Option.some.injEq] at h2
  subst h2
  exact ⟨[], by simp [List.mapM_nil], rfl, fun i b v h _ => by simp at h, fun id hid => by simp [refsL] at hid⟩
 | .tmp t :: rv, rr, rs, h1, h2 => by
  simp only [trRes] at h1
  obtain ⟨r', h3, rfl⟩ := Option.map_eq_some_iff.1 h1
  simp only [resOf] at h2
  split at h2
  ·rename_i l h4
   simp only [Option.some.injEq] at h2
   subst h2
   obtain ⟨us, k1, k2, k3, k4⟩ := resOf_ok hs rv r' h3 h4
   refine ⟨a.tmps.getD t undef :: us, by simp [List.mapM_cons, k1, rv1], by simp [k2], fun i b v e1 e2 => ?_, fun id hid => ?_⟩
   ·cases i with
    | zero =>
     simp at e1 e2
     subst e1 e2
     simpa [List.getD_eq_getElem?_getD, Array.getD_eq_getD_getElem?] using hs.val t
    | succ i => exact k3 i b v (by simpa using e1) (by simpa using e2)
   ·simp only [refsL, List.mem_append] at hid
    exact hid.elim (fun h => hs.live id (getD_mem h)) (k4 id)
  ·simp at h2
 | .cell t ty :: rv, rr, rs, h1, h2 => by
  simp only [trRes] at h1
  split at h1
  ·rename_i ag sz r' h5 h6 h3
   simp only [Option.some.injEq] at h1
   subst h1
   simp only [resOf] at h2
   split at h2
   ·rename_i v l h7 h4
    simp only [Option.some.injEq] at h2
    subst h2
    obtain ⟨us, k1, k2, k3, k4⟩ := resOf_ok hs rv r' h3 h4
    have h7' : evR G st.t st.h (.load ag sz (trO (.tmp t))) = some v := h7
    obtain ⟨p, u, hp, hu, hr, hl⟩ := load_val (P := P) (tagg_ok h5) h6 hs h7'
    have hp' : a.tmps.getD t undef = .pointer (some p) := hp
    refine ⟨u :: us, by simp [List.mapM_cons, k1, rv1, hp', asAddr, hu], by simp [k2], fun i b v' e1 e2 => ?_, fun id hid => ?_⟩
    ·cases i with
     | zero =>
      simp at e1 e2
      subst e1 e2
      exact hr
     | succ i => exact k3 i b v' (by simpa using e1) (by simpa using e2)
    ·simp only [refsL, List.mem_append] at hid
     exact hid.elim (hl id) (k4 id)
   ·simp at h2
  ·simp at h1
theorem results_ok (hs : RelS G x st a) {fn : Func} {rr : List Res} {rs : List AV} (h1 : trRes P fn.results.toList = some rr) (h2 : resOf st rr = some rs) :
  ∃ us : List Value, (results fn a.tmps).run P x.w = .ok (mkRes us) x.w ∧ rs.length = us.length ∧ (∀ (i : Nat) (b : AV) (v : Value), rs[i]? = some b → us[i]? = some v → RelV x st.h b v) ∧ Live st.h rs := by
 obtain ⟨us, k1, k2, k3, k4⟩ := resOf_ok hs _ _ h1 h2
 refine ⟨us, ?_, k2, k3, k4⟩
 have hu : results fn a.tmps = (do let vs ← fn.results.mapM (rv1 a.tmps); pure (if h : vs.size = 1 then vs[0] else .tuple vs)) := rfl
 rw [hu, Array.mapM_eq_mapM_toList]
 simp only [Sem.run_bind, k1, Result.andThen_ok, map_eq_pure_bind, bind_assoc, pure_bind]
 match us with
 | [] => simp [mkRes]
 | [u] => simp [mkRes]
 | u :: u2 :: us => simp [mkRes]
end
end Go.Ev
set_option linter.unusedSimpArgs false
set_option linter.unusedVariables false
namespace Go.Ev
section
variable {P : Program} {G : Cf} {F : FnEv}
theorem frzRes_ok : ∀ {l : List AV} {k : List Bool} {l' : List AV} {vs : List Value} {x : Cx} {h h' : Heap}, Inv G x h → l.length = vs.length → (∀ (i : Nat) (a : AV) (v : Value), l[i]? = some a → vs[i]? = some v → RelV x h a v) → Live h l → frzRes k l h = some (l', h') →
  ∃ x', Frz G x h x' h' ∧ l'.length = vs.length ∧ (∀ (i : Nat) (a : AV) (v : Value), l'[i]? = some a → vs[i]? = some v → RelV x' h' a v) ∧ ∀ id ∈ refsL l', id ∈ refsL l
 | [], k, l', vs, x, h, h', hi, hl, _, _, he => by
  simp only [frzRes, Option.some.injEq, Prod.mk.injEq] at he
  obtain ⟨rfl, rfl⟩ := he
  exact ⟨x, ⟨rfl, hi, Step.refl _ _ _⟩, hl, fun i a v h1 _ => by simp at h1, fun id h => h⟩
 | b :: l, k, l', vs, x, h, h', hi, hl, hr, hlv, he => by
  cases vs with
  | nil => simp at hl
  | cons v vs =>
   simp only [frzRes] at he
   split at he
   ·rename_i b' h1 hb
    split at he
    ·rename_i r h2 hr2
     injection he with he
     injection he with e1 e2
     subst e1 e2
     have key : ∃ x1, Frz G x h x1 h1 ∧ RelV x1 h1 b' v ∧ ∀ id ∈ b'.refs, id ∈ b.refs := by
      split at hb
      ·simp only [Option.some.injEq, Prod.mk.injEq] at hb
       obtain ⟨rfl, rfl⟩ := hb
       exact ⟨x, ⟨rfl, hi, Step.refl _ _ _⟩, hr 0 b v rfl rfl, fun id h => h⟩
      ·unfold frzC at hb
       split at hb
       ·rename_i b0 h0 hb0
        simp only [Option.some.injEq, Prod.mk.injEq] at hb
        obtain ⟨rfl, rfl⟩ := hb
        obtain ⟨x1, f1, r1, s1⟩ := frz_ok hi (hr 0 b v rfl rfl) (fun id hid => hlv id (by simp only [refsL, List.mem_append]; exact .inl hid)) hb0
        exact ⟨x1, f1, r1.canon, by rw [refs_canon]; exact s1⟩
       ·simp at hb
     obtain ⟨x1, f1, r1, s1⟩ := key
     have hlive1 : Live h l := fun id hid => hlv id (by simp only [refsL, List.mem_append]; exact .inr hid)
     obtain ⟨x2, f2, l2, r2, s2⟩ := frzRes_ok (vs := vs) f1.inv (by simpa using hl) (fun i a v h3 h4 => (hr (i + 1) a v (by simpa using h3) (by simpa using h4)).step f1.step fun id hid => ⟨trivial, hlive1 id (mem_refsL h3 hid)⟩) (fun id hid => (f1.step.evo id trivial (hlive1 id hid)).2) hr2
     refine ⟨x2, f1.trans f2, by simp [l2], fun i a w h3 h4 => ?_, fun id hid => ?_⟩
     ·cases i with
      | zero =>
       simp only [List.getElem?_cons_zero, Option.some.injEq] at h3 h4
       subst h3 h4
       exact r1.step f2.step fun id hid => ⟨trivial, (f1.step.evo id trivial (hlv id (by simp only [refsL, List.mem_append]; exact .inl (s1 id hid)))).2⟩
      | succ i => exact r2 i a w (by simpa using h3) (by simpa using h4)
     ·simp only [refsL, List.mem_append] at hid ⊢
      exact hid.imp (s1 id) (s2 id)
    ·simp at he
   ·simp at he
def Cx.up (x : Cx) (ns : Nat) : Cx := { x with φ := fun s => x.φ (s - ns), κ := fun s => x.κ (s - ns), Ω := fun s => x.Ω (s - ns) }
theorem start_get (fn : Fn) (args : List AV) (ins : List Obj) (id : Nat) : getO (start fn args ins).h id = if id < fn.ns then none else (ins[id - fn.ns]?).map (Obj.tr (· + fn.ns) fun o => o) := by
 simp only [start, getO, List.getD_eq_getElem?_getD, List.getElem?_append, List.length_replicate]
 split
 ·rename_i h
  simp [h]
 ·rename_i h
  simp only [List.getElem?_map]
  cases ins[id - fn.ns]? <;> simp [Obj.ren_tr]
theorem start_at (fn : Fn) (args : List AV) (ins : List Obj) (id : Nat) : getO (start fn args ins).h (id + fn.ns) = (ins[id]?).map (Obj.tr (· + fn.ns) fun o => o) := by
 rw [start_get, if_neg (by omega)]
 simp
theorem start_ok {x : Cx} {fn : Fn} {args : List AV} {ins : List Obj} {vals : List Value} {nt : Nat} (hnt : nt = fn.nt) (hB : x.B0 = x.w.heap.size) (hi : Inv G x (ins.map some)) (hal : args.length = vals.length)
  (har : ∀ (i : Nat) (a : AV) (v : Value), args[i]? = some a → vals[i]? = some v → RelV x (ins.map some) a v) (hlv : Live (ins.map some) args) :
  RelS G (x.up fn.ns) (start fn args ins) { tmps := vals.toArray ++ Array.replicate (nt - vals.toArray.size) undef, defers := [] } := by
 have hSh : TrSh x (x.up fn.ns) (fun o => o) true := fun o b q _ hS => ⟨hS, rfl⟩
 have hId : ∀ id, TrId x (ins.map some) (x.up fn.ns) (start fn args ins).h (· + fn.ns) id := fun id => by
  refine ⟨fun cs hg => ?_, fun e s o f l hg => ?_, fun d hg => ?_⟩
  rotate_left 2
  ·rw [start_at, Option.map_eq_some_iff] at hg
   obtain ⟨ob, h1, h2⟩ := hg
   cases ob <;> simp [Obj.tr] at h2
   subst h2
   exact ⟨by rw [getO_map]; exact h1, by simp [Cx.up]⟩
  ·rw [start_at, Option.map_eq_some_iff] at hg
   obtain ⟨ob, h1, h2⟩ := hg
   cases ob <;> simp [Obj.tr] at h2
   exact ⟨⟨_, by rw [getO_map]; exact h1⟩, by simp [Cx.up]⟩
  ·rw [start_at, Option.map_eq_some_iff] at hg
   obtain ⟨ob, h1, h2⟩ := hg
   cases ob <;> simp [Obj.tr] at h2
   obtain ⟨rfl, rfl, rfl, rfl, rfl⟩ := h2
   exact ⟨_, _, by rw [getO_map]; exact h1, by simp [Cx.up], by simp [Cx.up]⟩
 have hget : ∀ {id : Nat} {ob : Obj}, getO (start fn args ins).h id = some ob → fn.ns ≤ id ∧ ∃ ob0, getO (ins.map some) (id - fn.ns) = some ob0 ∧ ob = ob0.tr (· + fn.ns) fun o => o := fun {id ob} hg => by
  rw [start_get] at hg
  split at hg
  ·simp at hg
  ·obtain ⟨ob0, h1, rfl⟩ := Option.map_eq_some_iff.1 hg
   exact ⟨by omega, ob0, by rw [getO_map]; exact h1, rfl⟩
 have hlive : ∀ id, (getO (ins.map some) id).isSome → (getO (start fn args ins).h (id + fn.ns)).isSome := fun id h => by
  rw [start_at]
  rw [getO_map] at h
  simpa using h
 have hmut : ∀ ob0 : Obj, (ob0.tr (· + fn.ns) fun o => o).mut → ob0.mut := fun ob0 h => by cases ob0 <;> exact h
 refine ⟨⟨hi.bgo, fun id ob hg => ?_, fun i j oi oj gi gj di dj hp => ?_, fun id ob hg hm q hS => ?_, hi.sh, fun id ob hg j hj => ?_, hi.glob, fun id d hg b hb => ?_⟩, by simp [Cx.up, hB], ?_, fun i hlt => ?_, fun id hid => ?_⟩
 ·obtain ⟨h1, ob0, h2, rfl⟩ := hget hg
  have := (hi.obj _ ob0 h2).tr (r := (· + fn.ns)) hSh (fun _ => rfl) (fun j _ => hId j) rfl (by simp [Cx.up]) (by simp [Cx.up]) (fun e s o0 f l hrow hf => by
   subst hrow
   obtain ⟨_, _, _, _, _, _, _, _, _, _, h10⟩ := hi.obj _ _ h2
   exact h10 hf) fun d _ => ⟨rfl, by simp [Cx.up], fun _ _ => rfl, fun _ _ _ h => h⟩
  have he : id - fn.ns + fn.ns = id := by omega
  rwa [he] at this
 ·obtain ⟨h1, o1, h2, rfl⟩ := hget gi
  obtain ⟨h3, o2, h4, rfl⟩ := hget gj
  have := hi.inj _ _ o1 o2 h2 h4 (by rintro rfl; exact di rfl) (by rintro rfl; exact dj rfl) hp
  omega
 ·obtain ⟨h1, ob0, h2, rfl⟩ := hget hg
  exact hi.own _ ob0 h2 (hmut _ hm) q hS
 ·obtain ⟨h1, ob0, h2, rfl⟩ := hget hg
  rw [Obj.refs_tr, List.mem_map] at hj
  obtain ⟨j0, hj0, rfl⟩ := hj
  exact hlive j0 (hi.live _ ob0 h2 j0 hj0)
 ·have old : ∀ {i : Nat} {d : Big}, getO (start fn args ins).h i = some (.big d) → fn.ns ≤ i ∧ getO (ins.map some) (i - fn.ns) = some (.big d) := fun {i d} hgi => by
   obtain ⟨q1, ob0, q2, q3⟩ := hget hgi
   cases ob0 <;> simp [Obj.tr] at q3
   subst q3
   exact ⟨q1, q2⟩
  obtain ⟨q1, q2⟩ := old hg
  obtain ⟨k1, k2, k3⟩ := hi.big _ d q2 b hb
  refine ⟨k1, fun i o hgi hd hp => ?_, fun i d' hgi hOi => ?_⟩
  ·obtain ⟨q3, ob0, q4, rfl⟩ := hget hgi
   exact k2 _ ob0 q4 (by rintro rfl; exact hd rfl) hp
  ·obtain ⟨q3, q4⟩ := old hgi
   have := k3 _ d' q4 hOi
   omega
 ·simp [start, renL_tr, trL_map, hal, hnt]
 ·have ht : (start fn args ins).t = args.map (AV.tr (· + fn.ns) fun o => o) ++ List.replicate (fn.nt - args.length) (.s undef) := by simp only [start, renL_tr, trL_map]
  rw [ht] at hlt ⊢
  simp only [List.length_append, List.length_replicate, List.length_map] at hlt
  simp only [List.getD_eq_getElem?_getD, List.getElem?_append, List.length_map, Array.getD_eq_getD_getElem?, Array.getElem?_append, List.size_toArray]
  by_cases c : i < args.length
  ·rw [if_pos c, if_pos (by omega)]
   have h1 : args[i]? = some args[i] := List.getElem?_eq_getElem c
   have h2 : vals[i]? = some (vals[i]'(by omega)) := List.getElem?_eq_getElem (by omega)
   have := (har i _ _ h1 h2).tr hSh (fun _ => rfl) (fun id _ => hId id)
   simpa [h1, h2] using this
  ·rw [if_neg c, if_neg (by omega)]
   have h1 : i - args.length < fn.nt - args.length := by omega
   have h2 : i - vals.length < nt - vals.length := by omega
   simp [h1, h2]
   exact .s _
 ·simp only [start, renL_tr] at hid
  obtain ⟨i, b, h1, h2⟩ := mem_refsL_iff.1 hid
  rw [List.getElem?_append] at h1
  split at h1
  ·have : id ∈ refsL (trL (· + fn.ns) (fun o => o) args) := mem_refsL h1 h2
   rw [refsL_tr, List.mem_map] at this
   obtain ⟨j0, hj0, rfl⟩ := this
   exact hlive j0 (hlv j0 hj0)
  ·have := List.mem_of_getElem? h1
   simp only [List.mem_replicate] at this
   rw [this.2] at h2
   simp [AV.refs] at h2
theorem RelV.yng {x : Cx} {h : Heap} {a : AV} {v : Value} (hr : RelV x h a v) : RelV x h a.yng v := by
 cases hr with
 | sl old l v hr =>
  cases l with
  | nil =>
   cases hr with
   | nil base cap h0 => exact .sl _ _ _ (.nil base cap h0)
   | sl _ _ _ _ _ _ hne => exact absurd rfl hne
  | cons c l => exact .sl old _ v hr
 | nilsl => exact .sl _ _ _ (.nil _ _ fun _ => rfl)
 | esl a cap => exact .sl _ _ _ (.nil _ _ fun h => by simp at h)
 | undef v => exact .undef v
 | s v => exact .s v
 | row id n v hv hle hr => exact .row id n v hv hle hr
 | ptr id off v hv hr hb => exact .ptr id off v hv hr hb
 | mp id v hv hr => exact .mp id v hv hr
 | eptr id n i k v hv hle hr => exact .eptr id n i k v hv hle hr
 | daddr old l b o vals hc hr => exact .daddr old l b o vals hc hr
 | agg l vs hl hr => exact .agg l vs hl hr
 | tup l vs hl hr => exact .tup l vs hl hr
 | ifc t a v hr => exact .ifc t a v hr
 | clos f l vs hl hr => exact .clos f l vs hl hr
theorem AV.refs_yng (a : AV) : a.yng.refs = a.refs := by
 cases a with
 | sl o l => cases l <;> rfl
 | _ => rfl
theorem refsL_yng : ∀ l : List AV, refsL (l.map AV.yng) = refsL l
 | [] => rfl
 | a :: r => by simp only [List.map_cons, refsL, AV.refs_yng, refsL_yng r]
theorem finish_ok {x x1 : Cx} {fn : Fn} {args : List AV} {ins : List Obj} {st : St} {a : Act} {rs : List AV} {outs : List Obj} {func : Func} (hs : RelS G x1 st a) (hst : SStep fn.ns (x.up fn.ns) (start fn args ins).h x1 st.h)
  (htr : trRes P func.results.toList = some fn.res) (he : finish fn ins.length st = some (rs, outs)) :
  ∃ us, (results func a.tmps).run P x1.w = .ok (mkRes us) x1.w ∧ ∃ x', x'.w = x1.w ∧ Post G x ins rs outs x' us := by
 unfold finish at he
 split at he
 ·rename_i rs0 hres
  obtain ⟨us, hrun, hlen0, hrel0, hlive0⟩ := results_ok (P := P) hs htr hres
  refine ⟨us, hrun, ?_⟩
  split at he
  ·rename_i rs1 h2 hfr
   obtain ⟨x2, f2, hlen1, hrel1, hsub1⟩ := frzRes_ok hs.inv hlen0 hrel0 hlive0 hfr
   have hlive1 : Live h2 rs1 := fun id hid => (f2.step.evo id trivial (hlive0 id (hsub1 id hid))).2
   have hst2 : SStep fn.ns (x.up fn.ns) (start fn args ins).h x2 h2 := hst.trans (f2.step.weaken fun _ _ => trivial)
   simp only at he
   generalize hrs2 : (if fn.young = true then rs1.map AV.yng else ageL true rs1) = rs2 at he
   have hrel2 : ∀ (i : Nat) (b : AV) (v : Value), rs2[i]? = some b → us[i]? = some v → RelV x2 h2 b v := by
    rw [← hrs2]
    split
    ·intro i b v h1 h2
     rw [List.getElem?_map, Option.map_eq_some_iff] at h1
     obtain ⟨b0, h3, rfl⟩ := h1
     exact (hrel1 i b0 v h3 h2).yng
    ·exact RelV.ageL hrel1
   have hrefs2 : refsL rs2 = refsL rs1 := by
    rw [← hrs2]
    split
    ·exact refsL_yng rs1
    ·exact refsL_age rs1
   have hlen2 : rs2.length = us.length := by
    rw [← hrs2]
    split
    ·simpa using hlen1
    ·rw [ageL_eq, trL_map]
     simpa using hlen1
   generalize hids : reach h2 (refsL rs2 ++ List.range' fn.ns ins.length) = ids at he
   have hndI : ids.Nodup := by rw [← hids]; exact reachN_nodup _ _ _ _ List.nodup_nil
   generalize hnm : List.range' fn.ns ins.length ++ ids.filter (· < fn.ns) = names at he
   split at he
   ·rename_i hcl
    obtain ⟨hroots, hliveI, hrefsI⟩ := closed_spec hcl
    split at he
    ·rename_i os hos
     simp only [Option.some.injEq, Prod.mk.injEq] at he
     obtain ⟨e1, e2⟩ := he
     obtain ⟨hosl, hosg⟩ := getAll_spec hos
     generalize hr : (fun i => names.idxOf i) = r at e1 e2
     have hrr : ∀ i, r i = names.idxOf i := fun i => by rw [← hr]
     have hnd : names.Nodup := by
      rw [← hnm]
      refine List.nodup_append.2 ⟨List.nodup_range', hndI.filter _, fun i hi j hj hij => ?_⟩
      have h3 := (List.mem_range'_1.1 hi).1
      have h4 := (List.mem_filter.1 hj).2
      simp at h4
      omega
     have hfirst : ∀ id, id < ins.length → names[id]? = some (fn.ns + id) := fun id hlt => by
      rw [← hnm, List.getElem?_append_left (by simpa using hlt)]
      simp [hlt]
     let x3 : Cx := { x2 with φ := fun j => x2.φ (names.getD j 0), κ := fun j => x2.κ (names.getD j 0), Ω := fun j => x2.Ω (names.getD j 0) }
     obtain ⟨gy, houts, hTrSh, hyb⟩ : ∃ gy : Bool → Bool, outs = os.map (Obj.tr r gy) ∧ TrSh x2 x3 gy true ∧ (∀ o, gy o = false → o = false) := by
      cases hy : fn.young with
      | true =>
       refine ⟨fun o => o, ?_, fun o k q _ hS => ⟨hS, rfl⟩, fun o ho => ho⟩
       rw [← e2]
       congr 1
       funext o
       rw [hy, if_pos rfl, Obj.ren_tr]
      | false =>
       refine ⟨fun _ => true, ?_, fun o k q _ hS => ⟨⟨hS.1, .inl rfl⟩, rfl⟩, fun o ho => by simp at ho⟩
       rw [← e2]
       congr 1
       funext o
       rw [hy, if_neg (by simp), Obj.ren_tr, Obj.age_tr]
     have hgc : ∀ j ob, getO (outs.map some) j = some ob → ∃ id ob0, names[j]? = some id ∧ names.getD j 0 = id ∧ getO h2 id = some ob0 ∧ ob = ob0.tr r gy := fun j ob hj => by
      rw [getO_map, houts, List.getElem?_map, Option.map_eq_some_iff] at hj
      obtain ⟨ob0, h1, rfl⟩ := hj
      have hjl : j < names.length := by rw [← hosl]; exact (List.getElem?_eq_some_iff.1 h1).1
      obtain ⟨o2, h3, h4⟩ := hosg j _ (List.getElem?_eq_getElem hjl)
      rw [h1] at h4
      injection h4 with h4
      subst h4
      exact ⟨names[j], ob0, List.getElem?_eq_getElem hjl, by simp [List.getD, hjl], h3, rfl⟩
     have hgc2 : ∀ id ob0, id ∈ names → getO h2 id = some ob0 → getO (outs.map some) (r id) = some (ob0.tr r gy) := fun id ob0 hid hg => by
      obtain ⟨o2, h3, h4⟩ := hosg _ _ (idx_get hid).1
      rw [hg] at h3
      injection h3 with h3
      subst h3
      rw [getO_map, houts, List.getElem?_map, hrr, h4]
      rfl
     have hφc : ∀ id ∈ names, x3.φ (r id) = x2.φ id ∧ x3.κ (r id) = x2.κ id := fun id hid => by
      have := (idx_get hid).2
      simp only [x3, hrr, this, and_self]
     have hTrId : ∀ id ∈ names, TrId x2 h2 x3 (outs.map some) r id := fun id hid => by
      refine ⟨fun cs' hc => ?_, fun e s o f l hc => ?_, fun d hc => ?_⟩
      rotate_left 2
      ·obtain ⟨i2, ob0, h1, _, h3, h4⟩ := hgc _ _ hc
       have : i2 = id := by
        have := (idx_get hid).1
        rw [← hrr, h1] at this
        injection this
       subst this
       cases ob0 <;> simp [Obj.tr] at h4
       subst h4
       exact ⟨h3, (hφc _ hid).1⟩
      ·obtain ⟨i2, ob0, h1, _, h3, h4⟩ := hgc _ _ hc
       have : i2 = id := by
        have := (idx_get hid).1
        rw [← hrr, h1] at this
        injection this
       subst this
       cases ob0 <;> simp [Obj.tr] at h4
       exact ⟨⟨_, h3⟩, (hφc _ hid).1⟩
      ·obtain ⟨i2, ob0, h1, _, h3, h4⟩ := hgc _ _ hc
       have : i2 = id := by
        have := (idx_get hid).1
        rw [← hrr, h1] at this
        injection this
       subst this
       cases ob0 <;> simp [Obj.tr] at h4
       obtain ⟨rfl, rfl, _, rfl, rfl⟩ := h4
       exact ⟨_, _, h3, (hφc _ hid).1, (hφc _ hid).2⟩
     have hTrSh0 : TrSh x2 x3 (fun o => o) true := fun o k q _ hS => ⟨hS, rfl⟩
     have hi2 := f2.inv
     have hmutr : ∀ ob0 : Obj, (ob0.tr r gy).mut ↔ ob0.mut := fun ob0 => by cases ob0 <;> simp [Obj.mut, Obj.tr]
     have hrowr : ∀ ob0 : Obj, (ob0.tr r gy).isRow ↔ ob0.isRow := fun ob0 => by cases ob0 <;> simp [Obj.isRow, Obj.tr]
     have hlive2 : ∀ id ∈ names, (getO (outs.map some) (r id)).isSome := fun id hid => by
      obtain ⟨ob1, hob1⟩ := Option.isSome_iff_exists.1 (hliveI id hid)
      rw [hgc2 id ob1 hid hob1]
      rfl
     have hinv : Inv G x3 (outs.map some) := {
      obj := fun j ob hj => by
       obtain ⟨id, ob0, h1, h3, h4, rfl⟩ := hgc j ob hj
       have hid : id ∈ names := List.mem_of_getElem? h1
       have hrj : r id = j := by rw [hrr]; exact nodup_idx hnd h1
       rw [← hrj]
       refine (hi2.obj id ob0 h4).tr hTrSh (fun _ => rfl) (fun q hq => hTrId q (hrefsI id ob0 hid h4 q hq)) rfl (hφc id hid).1 (hφc id hid).2 (fun e s o0 f l hrow hf => by
        have ho := hyb _ hf
        subst hrow
        obtain ⟨_, _, _, _, _, _, _, _, _, _, h10⟩ := hi2.obj id _ h4
        exact h10 ho) fun d _ => ⟨rfl, by simp only [x3, hrr, (idx_get hid).2], fun _ _ => rfl, fun _ _ _ h => h⟩
      bgo := hi2.bgo
      big := fun j d hj b hb => by
       have old : ∀ {j : Nat} {d : Big}, getO (outs.map some) j = some (.big d) → ∃ id, names[j]? = some id ∧ getO h2 id = some (.big d) ∧ x3.Ω j = x2.Ω id := fun {j d} hj => by
        obtain ⟨id, ob0, h1, h3, h4, h5⟩ := hgc j _ hj
        cases ob0 <;> simp [Obj.tr] at h5
        subst h5
        exact ⟨id, h1, h4, by simp only [x3, h3]⟩
       obtain ⟨id, q1, q2, q3⟩ := old hj
       rw [q3] at hb
       obtain ⟨k1, k2, k3⟩ := hi2.big id d q2 b hb
       refine ⟨k1, fun i o hgi hd hp => ?_, fun i d' hgi hOi => ?_⟩
       ·obtain ⟨i0, ob0, h1, h3, h4, rfl⟩ := hgc i o hgi
        simp only [x3, h3] at hp
        exact k2 i0 ob0 h4 (by rintro rfl; exact hd rfl) hp
       ·obtain ⟨i0, p1, p2, p3⟩ := old hgi
        rw [p3] at hOi
        have := k3 i0 d' p2 hOi
        subst this
        have e3 := nodup_idx hnd q1
        have e4 := nodup_idx hnd p1
        omega
      inj := fun i j oi oj gi gj di dj hpp => by
       obtain ⟨id1, o1, h1, h3, h4, rfl⟩ := hgc i oi gi
       obtain ⟨id2, o2, k1, k3, k4, rfl⟩ := hgc j oj gj
       simp only [x3, h3, k3] at hpp
       have := hi2.inj id1 id2 o1 o2 h4 k4 (by rintro rfl; exact di rfl) (by rintro rfl; exact dj rfl) hpp
       subst this
       have e3 := nodup_idx hnd h1
       have e4 := nodup_idx hnd k1
       omega
      own := fun j ob hj hm q hS => by
       obtain ⟨id, ob0, h1, h3, h4, rfl⟩ := hgc j ob hj
       simp only [x3, h3] at hS
       exact hi2.own id ob0 h4 ((hmutr ob0).1 hm) q hS
      sh := hi2.sh
      live := fun j ob hj q hq => by
       obtain ⟨id, ob0, h1, h3, h4, rfl⟩ := hgc j ob hj
       rw [Obj.refs_tr, List.mem_map] at hq
       obtain ⟨q0, hq0, rfl⟩ := hq
       exact hlive2 q0 (hrefsI id ob0 (List.mem_of_getElem? h1) h4 q0 hq0)
      glob := hi2.glob }
     have hin : ∀ {id : Nat} {ob : Obj}, getO (start fn args ins).h id = some ob → ∃ ob0, getO (ins.map some) (id - fn.ns) = some ob0 ∧ (ob.mut ↔ ob0.mut) ∧ (ob.isRow ↔ ob0.isRow) := fun {id ob} hg => by
      rw [start_get] at hg
      split at hg
      ·simp at hg
      ·obtain ⟨ob0, h1, rfl⟩ := Option.map_eq_some_iff.1 hg
       exact ⟨ob0, by rw [getO_map]; exact h1, by cases ob0 <;> simp [Obj.mut, Obj.tr], by cases ob0 <;> simp [Obj.isRow, Obj.tr]⟩
     have hinb : ∀ {id : Nat} {d : Big}, getO (start fn args ins).h id = some (.big d) → getO (ins.map some) (id - fn.ns) = some (.big d) := fun {id d} hg => by
      rw [start_get] at hg
      split at hg
      ·simp at hg
      ·obtain ⟨ob0, h1, h3⟩ := Option.map_eq_some_iff.1 hg
       cases ob0 <;> simp [Obj.tr] at h3
       subst h3
       rw [getO_map]; exact h1
     have hstep : Step (fun _ => True) x (ins.map some) x3 (outs.map some) := {
      ext := ⟨hst2.ext.b0, hst2.ext.bg, hst2.ext.cells⟩
      size := hst2.size
      evo := fun id _ hsm => by
       have hlt : id < ins.length := by simpa using getO_lt hsm
       have hnid := hfirst id hlt
       have hmem : fn.ns + id ∈ names := List.mem_of_getElem? hnid
       have hri : r (fn.ns + id) = id := by rw [hrr]; exact nodup_idx hnd hnid
       have hs0 : (getO (start fn args ins).h (fn.ns + id)).isSome := by
        rw [Nat.add_comm, start_at]
        simpa [getO_map] using hsm
       obtain ⟨ev, hsm2⟩ := hst2.evo (fn.ns + id) (by omega) hs0
       obtain ⟨t1, t2, t3⟩ := hTrId _ hmem
       rw [hri] at t1 t2 t3
       have hup : (x.up fn.ns).φ (fn.ns + id) = x.φ id ∧ (x.up fn.ns).κ (fn.ns + id) = x.κ id := by simp [Cx.up]
       have hat : getO (start fn args ins).h (fn.ns + id) = (ins[id]?).map (Obj.tr (· + fn.ns) fun o => o) := by rw [Nat.add_comm, start_at]
       refine ⟨⟨fun cs' hc => ?_, fun e s o f l' hc => ?_, fun d hc => ?_⟩, by have := hlive2 _ hmem; rwa [hri] at this⟩
       rotate_left 2
       ·obtain ⟨h3, h4⟩ := t3 d hc
        obtain ⟨⟨d0, h5⟩, h6⟩ := ev.big d h3
        rw [hat, Option.map_eq_some_iff] at h5
        obtain ⟨ob0, h7, h8⟩ := h5
        cases ob0 <;> simp [Obj.tr] at h8
        exact ⟨⟨_, by rw [getO_map]; exact h7⟩, (h4.trans h6).trans hup.1⟩
       ·obtain ⟨⟨cs, h3⟩, h4⟩ := t1 cs' hc
        obtain ⟨⟨cs0, h5⟩, h6⟩ := ev.var cs h3
        rw [hat, Option.map_eq_some_iff] at h5
        obtain ⟨ob0, h7, h8⟩ := h5
        cases ob0 <;> simp [Obj.tr] at h8
        exact ⟨⟨_, by rw [getO_map]; exact h7⟩, (h4.trans h6).trans hup.1⟩
       ·obtain ⟨o1, f1, h3, h4, h5⟩ := t2 e s o f l' hc
        obtain ⟨o2, f3, l, h6, h7, h8⟩ := ev.row e s o1 f1 l' h3
        rw [hat, Option.map_eq_some_iff] at h6
        obtain ⟨ob0, h9, h10⟩ := h6
        cases ob0 <;> simp [Obj.tr] at h10
        obtain ⟨rfl, rfl, rfl, rfl, rfl⟩ := h10
        exact ⟨_, _, _, by rw [getO_map]; exact h9, h7, fun hh => ⟨(h4.trans (h8 hh).1).trans hup.1, (h5.trans (h8 hh).2).trans hup.2⟩⟩
      frame := fun b hb hm hbg => hst2.frame b hb (fun id ob hg hmut hp => by
       obtain ⟨ob0, h1, h3, _⟩ := hin hg
       exact hm _ ob0 h1 (h3.1 hmut) hp) fun id d hg hO => hbg _ d (hinb hg) hO
      bfresh := fun j d b hj hO => by
       obtain ⟨id, ob0, h1, h3, h4, h5⟩ := hgc j _ hj
       cases ob0 <;> simp [Obj.tr] at h5
       simp only [x3, h3] at hO
       rcases hst2.bfresh id _ b h4 hO with ⟨i0, d0, g0, h0⟩ | h0 | ⟨i0, o0, g0, r0, m0, e0⟩
       ·exact .inl ⟨_, d0, hinb g0, h0⟩
       ·exact .inr (.inl h0)
       ·obtain ⟨ob0, q1, q2, q3⟩ := hin g0
        exact .inr (.inr ⟨_, ob0, q1, q3.1 r0, q2.1 m0, e0⟩)
      sgrow := fun b q hS => by
       rcases hst2.sgrow b q hS with h1 | ⟨id, ob, hg, hrow, hmut, hp⟩ | h1 | ⟨id, d, hg, hO⟩
       rotate_left 3
       ·exact .inr (.inr (.inr ⟨_, d, hinb hg, hO⟩))
       ·exact .inl h1
       ·obtain ⟨ob0, h3, h4, h5⟩ := hin hg
        exact .inr (.inl ⟨_, ob0, h3, h5.1 hrow, h4.1 hmut, hp⟩)
       ·exact .inr (.inr (.inl h1))
      fresh := fun j ob hj hm => by
       obtain ⟨id, ob0, h1, h3, h4, rfl⟩ := hgc j ob hj
       have hx : x3.φ j = x2.φ id := by simp only [x3, h3]
       rw [hx]
       rcases hst2.fresh id ob0 h4 ((hmutr ob0).1 hm) with ⟨i0, o0, g0, m0, p0⟩ | h5
       ·obtain ⟨ob1, k1, k2, _⟩ := hin g0
        exact .inl ⟨_, ob1, k1, k2.1 m0, p0⟩
       ·exact .inr h5
      frow := fun j ob hj hm => by
       obtain ⟨id, ob0, h1, h3, h4, rfl⟩ := hgc j ob hj
       have hx : x3.φ j = x2.φ id := by simp only [x3, h3]
       rw [hx]
       rcases hst2.frow id ob0 h4 ((hrowr ob0).1 hm) with ⟨i0, o0, g0, r0, m0, p0⟩ | h5
       ·obtain ⟨ob1, k1, k2, k3⟩ := hin g0
        exact .inl ⟨_, ob1, k1, k3.1 r0, fun hmm => k2.1 (m0 ((hmutr ob0).1 hmm)), p0⟩
       ·exact .inr h5
      os := hst2.os
      tape := hst2.tape
      output := hst2.output
      nf := hst2.nf }
     have hroot : ∀ id ∈ refsL rs2, id ∈ names := fun id hid => hroots id (by simp only [List.mem_append]; exact .inl hid)
     refine ⟨x3, f2.w, hinv, hstep, by rw [← e1, renL_tr, trL_map]; simpa using hlen2, fun i b v h1 h3 => ?_, fun id hid => ?_⟩
     ·rw [← e1, renL_tr, trL_map, List.getElem?_map, Option.map_eq_some_iff] at h1
      obtain ⟨b0, h4, rfl⟩ := h1
      exact (hrel2 i b0 v h4 h3).tr hTrSh0 (fun _ => rfl) fun id hid => hTrId id (hroot id (mem_refsL h4 hid))
     ·rw [← e1, renL_tr, refsL_tr, List.mem_map] at hid
      obtain ⟨j0, hj0, rfl⟩ := hid
      exact hlive2 j0 (hroot j0 hj0)
    ·simp at he
   ·simp at he
  ·simp at he
 ·simp at he
def TabOk (P : Program) (tab : Nat → Option Fn) : Prop := ∀ f fn, tab f = some fn → f < 2000000 ∧ ∃ func an, P.funcs[real f]? = some func ∧ trFn P func an = some fn
theorem trFn_inv {f : Func} {an fn : Fn} (h : trFn P f an = some fn) : ∃ c, f.body = some c ∧ trIR P c an.body = some fn.body ∧ trRes P f.results.toList = some fn.res ∧ (f.name == "runtime.NumGoroutine") = false ∧ f.ntmps = fn.nt := by
 unfold trFn at h
 split at h
 ·rename_i c hc
  split at h
  ·rename_i b r h1 h2
   split at h
   ·simp at h
   ·rename_i hn
    simp only [Option.some.injEq] at h
    subst h
    exact ⟨c, hc, h1, h2, by simpa using hn, rfl⟩
  ·simp at h
 ·simp at h
theorem RelV.sl_nil {x : Cx} {h : Heap} {o : Bool} {v : Value} (hr : RelV x h (.sl o []) v) : RelV x h .nilsl v ∨ RelV x h .esl v := by
 cases hr with
 | sl old l v hr =>
  cases hr with
  | nil base cap h0 =>
   cases base with
   | none => rw [h0 rfl]; exact .inl .nilsl
   | some a => exact .inr (.esl a cap)
  | sl l sz b o cap vals hne => exact absurd rfl hne
theorem eqE_ok : ∀ {l m : List (List C)}, eqE l m = true → l = m
 | [], [], _ => rfl
 | [], _ :: _, h => by simp [eqE] at h
 | a :: l, [], h => by
  unfold eqE at h
  split at h <;> simp_all
 | a :: l, b :: m, h => by
  unfold eqE at h
  split at h
  ·simp_all
  ·rename_i e1 e2
   simp only [List.cons.injEq] at e1 e2
   obtain ⟨rfl, rfl⟩ := e1
   obtain ⟨rfl, rfl⟩ := e2
   simp only [Bool.and_eq_true, decide_eq_true_eq] at h
   rw [h.1, eqE_ok h.2]
  ·simp at h
theorem eqA1_ok {a b : AV} (h : eqA1 a b = true) : a = b := by
 unfold eqA1 at h
 split at h
 ·rw [eqE_ok h]
 ·rw [eqE_ok h]
 ·rw [of_decide_eq_true h]
 ·simp at h
theorem eqA1s_ok : ∀ {l m : List AV}, eqA1s l m = true → l = m
 | [], [], _ => rfl
 | [], _ :: _, h => by simp [eqA1s] at h
 | a :: l, [], h => by simp [eqA1s] at h
 | a :: l, b :: m, h => by
  simp only [eqA1s, Bool.and_eq_true] at h
  rw [eqA1_ok h.1, eqA1s_ok h.2]
theorem eqA_ok {a b : AV} (h : eqA a b = true) : a = b := by
 unfold eqA at h
 split at h
 ·rw [eqA1s_ok h]
 ·exact eqA1_ok h
theorem eqAs_ok : ∀ {l m : List AV}, eqAs l m = true → l = m
 | [], [], _ => rfl
 | [], _ :: _, h => by simp [eqAs] at h
 | a :: l, [], h => by simp [eqAs] at h
 | a :: l, b :: m, h => by
  simp only [eqAs, Bool.and_eq_true] at h
  rw [eqA_ok h.1, eqAs_ok h.2]
theorem both_some {a b : Option (List AV × List Obj)} {r : List AV × List Obj} (h : both a b = some r) : a = some r ∧ b = some r := by
 unfold both at h
 split at h
 ·rename_i rs us
  split at h
  ·rename_i he
   simp only [Option.some.injEq] at h
   subst h
   rw [eqAs_ok he]
   exact ⟨rfl, rfl⟩
  ·simp at h
 ·simp at h
theorem getO_pad {os : List Obj} {k j : Nat} {ob : Obj} (h : getO ((os ++ List.replicate k Obj.dead).map some) j = some ob) : getO (os.map some) j = some ob ∨ ob = Obj.dead := by
 rw [getO_map] at h ⊢
 rw [List.getElem?_append] at h
 split at h
 ·exact .inl h
 ·exact .inr (List.eq_of_mem_replicate (List.mem_of_getElem? h))
theorem getO_pad' {os : List Obj} {k j : Nat} {ob : Obj} (h : getO (os.map some) j = some ob) : getO ((os ++ List.replicate k Obj.dead).map some) j = some ob := by
 rw [getO_map] at h ⊢
 rw [List.getElem?_append_left (List.getElem?_eq_some_iff.1 h).1]
 exact h
theorem Evo.pad {x : Cx} {os : List Obj} {k : Nat} (id : Nat) : Evo x (os.map some) x ((os ++ List.replicate k Obj.dead).map some) id := by
 refine ⟨fun cs hc => ?_, fun e s o f l hc => ?_, fun d hc => ?_⟩
 rotate_left 2
 ·rcases getO_pad hc with h | h
  ·exact ⟨⟨d, h⟩, rfl⟩
  ·cases h
 ·rcases getO_pad hc with h | h
  ·exact ⟨⟨cs, h⟩, rfl⟩
  ·cases h
 ·rcases getO_pad hc with h | h
  ·exact ⟨o, f, l, h, Nat.le_refl _, fun _ => ⟨rfl, rfl⟩⟩
  ·cases h
theorem Post.pad {G : Cf} {x x' : Cx} {ins outs : List Obj} {rs : List AV} {us : List Value} (p : Post G x ins rs outs x' us) (k : Nat) : Post G x ins rs (outs ++ List.replicate k Obj.dead) x' us where
 inv := {
  obj := fun id o hg => by
   rcases getO_pad hg with h | rfl
   ·exact (p.inv.obj id o h).mono (Ext.refl x') rfl rfl rfl (fun j _ => Evo.pad j) fun d _ => ⟨rfl, fun _ _ => rfl, fun _ _ _ h => h⟩
   ·trivial
  inj := fun i j oi oj gi gj di dj => by
   rcases getO_pad gi with h1 | h1
   ·rcases getO_pad gj with h2 | h2
    ·exact p.inv.inj i j oi oj h1 h2 di dj
    ·exact absurd h2 dj
   ·exact absurd h1 di
  own := fun id o hg hm => by
   rcases getO_pad hg with h | rfl
   ·exact p.inv.own id o h hm
   ·exact absurd hm fun h => h
  sh := p.inv.sh
  live := fun id o hg j hj => by
   rcases getO_pad hg with h | rfl
   ·obtain ⟨ob, hob⟩ := Option.isSome_iff_exists.1 (p.inv.live id o h j hj)
    rw [getO_pad' hob]; rfl
   ·simp [Obj.refs] at hj
  bgo := p.inv.bgo
  big := fun id d hg b hb => by
   have old : ∀ {i : Nat} {d : Big}, getO ((outs ++ List.replicate k Obj.dead).map some) i = some (.big d) → getO (outs.map some) i = some (.big d) := fun {i d} hgi => by
    rcases getO_pad hgi with h | h
    ·exact h
    ·cases h
   obtain ⟨k1, k2, k3⟩ := p.inv.big id d (old hg) b hb
   refine ⟨k1, fun i o hgi hd => ?_, fun i d' hgi => k3 i d' (old hgi)⟩
   rcases getO_pad hgi with h | rfl
   ·exact k2 i o h hd
   ·exact absurd rfl hd
  glob := p.inv.glob }
 step := {
  ext := p.step.ext
  size := p.step.size
  evo := fun id hd hs => by
   obtain ⟨h1, h2⟩ := p.step.evo id hd hs
   obtain ⟨ob, hob⟩ := Option.isSome_iff_exists.1 h2
   exact ⟨h1.trans (Evo.pad id), by rw [getO_pad' hob]; rfl⟩
  frame := p.step.frame
  bfresh := fun id d b hg hO => by
   rcases getO_pad hg with h | h
   ·exact p.step.bfresh id d b h hO
   ·cases h
  sgrow := p.step.sgrow
  fresh := fun id ob hg hm => by
   rcases getO_pad hg with h | rfl
   ·exact p.step.fresh id ob h hm
   ·exact absurd hm fun h => h
  frow := fun id ob hg hm => by
   rcases getO_pad hg with h | rfl
   ·exact p.step.frow id ob h hm
   ·exact absurd hm fun h => h
  os := p.step.os
  tape := p.step.tape
  output := p.step.output
  nf := p.step.nf }
 len := p.len
 rel := fun i a v h1 h2 => (p.rel i a v h1 h2).mono (Ext.refl x') fun id _ => Evo.pad id
 live := fun id hid => by
  obtain ⟨ob, hob⟩ := Option.isSome_iff_exists.1 (p.live id hid)
  rw [getO_pad' hob]; rfl
theorem padR_some {n : Nat} {r : Option (List AV × List Obj)} {rs : List AV} {os : List Obj} (h : padR n r = some (rs, os)) : ∃ os0, r = some (rs, os0) ∧ os = os0 ++ List.replicate (n - os0.length) Obj.dead := by
 unfold padR at h
 split at h
 ·simp only [Option.some.injEq, Prod.mk.injEq] at h
  obtain ⟨rfl, rfl⟩ := h
  exact ⟨_, rfl, rfl⟩
 ·simp at h
theorem evFn1_ok {tab : Nat → Option Fn} (ht : TabOk P tab) (hF : FnsOk P G F) (n : Nat) {f : Nat} {fn : Fn} (hfn : tab f = some fn) {args : List AV} {ins : List Obj} {rs : List AV} {outs : List Obj}
  (he : evFn1 G (fun s st => loopN n s st) F fn args ins = some (rs, outs)) : Contract P G (real f) args ins rs outs := by
 obtain ⟨_, func, an, h1, h2⟩ := ht f fn hfn
 obtain ⟨c, h3, h4, h5, h6, h7⟩ := trFn_inv h2
 unfold evFn1 at he
 split at he
 ·have key : ∀ {ex : Ex} {st : St}, (ex = .normal ∨ ex = .ret) → evIR G (fun s st => loopN n s st) F fn.ns fn.body (start fn args ins) = some (ex, st) → padR (ins.length + cntT fn.keep) (finish fn ins.length st) = some (rs, outs) → Contract P G (real f) args ins rs outs := fun {ex st} hex hev hfin => by
   intro x vals hB hi hal har hlv
   obtain ⟨outs0, hfin0, rfl⟩ := padR_some hfin
   refine calls_of_wp h1 h3 ?_
   have hs := start_ok (fn := fn) h7 hB hi hal har hlv
   refine evIR_ok (x := x.up fn.ns) hF n fn.ns c an.body fn.body h4 hs hev fun x' a' hs' hst hd => ?_
   obtain ⟨us, hrun, x3, hw, hpost⟩ := finish_ok (P := P) (x := x) (func := func) hs' hst h5 hfin0
   have : bodyPost P func (fun e w' => ∃ us, e = .returned (mkRes us) ∧ ∃ x' : Cx, x'.w = w' ∧ Post G x ins rs (outs0 ++ List.replicate (ins.length + cntT fn.keep - outs0.length) Obj.dead) x' us) .normal a' x'.w := ⟨hd, mkRes us, hrun, us, rfl, x3, hw, hpost.pad _⟩
   rcases hex with rfl | rfl <;> exact this
  split at he
  ·exact key (.inl rfl) (by assumption) he
  ·exact key (.inr rfl) (by assumption) he
  ·simp at he
 ·simp at he
theorem canonA_get : ∀ {k : List Bool} {l : List AV} {i : Nat} {a : AV}, (canonA k l)[i]? = some a → ∃ b, l[i]? = some b ∧ (a = b ∨ a = b.canon)
 | [], [], i, a, h => by simp [canonA] at h
 | true :: k, [], i, a, h => by simp [canonA] at h
 | false :: k, [], i, a, h => by simp [canonA] at h
 | [], b :: l, 0, a, h => by simp [canonA] at h; exact ⟨b, rfl, .inr h.symm⟩
 | true :: k, b :: l, 0, a, h => by simp [canonA] at h; exact ⟨b, rfl, .inl h.symm⟩
 | false :: k, b :: l, 0, a, h => by simp [canonA] at h; exact ⟨b, rfl, .inr h.symm⟩
 | [], b :: l, i + 1, a, h => canonA_get (k := []) (l := l) (by simpa [canonA] using h)
 | true :: k, b :: l, i + 1, a, h => canonA_get (k := k) (l := l) (by simpa [canonA] using h)
 | false :: k, b :: l, i + 1, a, h => canonA_get (k := k) (l := l) (by simpa [canonA] using h)
theorem canonA_len : ∀ {k : List Bool} {l : List AV}, (canonA k l).length = l.length
 | [], [] => rfl
 | true :: k, [] => rfl
 | false :: k, [] => rfl
 | [], b :: l => by simp [canonA, canonA_len (k := []) (l := l)]
 | true :: k, b :: l => by simp [canonA, canonA_len (k := k) (l := l)]
 | false :: k, b :: l => by simp [canonA, canonA_len (k := k) (l := l)]
theorem canonA_refs : ∀ {k : List Bool} {l : List AV}, refsL (canonA k l) = refsL l
 | [], [] => rfl
 | true :: k, [] => rfl
 | false :: k, [] => rfl
 | [], b :: l => by simp [canonA, refsL, refs_canon, canonA_refs (k := []) (l := l)]
 | true :: k, b :: l => by simp [canonA, refsL, canonA_refs (k := k) (l := l)]
 | false :: k, b :: l => by simp [canonA, refsL, refs_canon, canonA_refs (k := k) (l := l)]
theorem evFnC_ok {tab : Nat → Option Fn} (ht : TabOk P tab) (hF : FnsOk P G F) (n : Nat) {f : Nat} {fn : Fn} (hfn : tab f = some fn) {args : List AV} {ins : List Obj} {rs : List AV} {outs : List Obj}
  (he : evFnC G (fun s st => loopN n s st) F fn args ins = some (rs, outs)) : Contract P G (real f) args ins rs outs := by
 unfold evFnC at he
 split at he
 ·split at he
  ·obtain ⟨e1, e2⟩ := both_some he
   have k1 := evFn1_ok ht hF n hfn e1
   have k2 := evFn1_ok ht hF n hfn e2
   intro x vals hB hi hal har hlv
   match vals, hal with
   | [v], _ =>
    have hl : ∀ a : AV, a.refs = [] → Live (ins.map some) [a] := fun a ha id hid => by simp [refsL, ha] at hid
    rcases (har 0 _ v rfl rfl).sl_nil with hr | hr
    ·exact k1 x [v] hB hi rfl (fun i a u h1 h2 => by
      cases i with
      | zero => simp at h1 h2; subst h1 h2; exact hr
      | succ i => simp at h1) (hl _ rfl)
    ·exact k2 x [v] hB hi rfl (fun i a u h1 h2 => by
      cases i with
      | zero => simp at h1 h2; subst h1 h2; exact hr
      | succ i => simp at h1) (hl _ rfl)
  ·exact evFn1_ok ht hF n hfn he
 ·exact evFn1_ok ht hF n hfn he
structure XOk (P : Program) (G : Cf) : Prop where
 ok : FnOk P G G.X
 pok : POk P G G.X
 enters : ∀ f args ins r, G.X f args ins = some r → f < 2000000 → Enters P (real f)
theorem evFn_ok {tab : Nat → Option Fn} (ht : TabOk P tab) (hX : XOk P G) (hF : FnsOk P G F) (n : Nat) : FnsOk P G (evFn tab G (fun s st => loopN n s st) F) where
 gf := hF.gf
 pok := fun f args ins rs outs he hge => by
  simp only [evFn] at he
  split at he
  ·rename_i fn hfn
   have := (ht f fn hfn).1
   omega
  ·exact hX.pok _ _ _ _ _ he hge
 enters := fun f args ins r he hlt => by
  simp only [evFn] at he
  split at he
  ·rename_i fn hfn
   obtain ⟨_, func, an, h1, h2⟩ := ht f fn hfn
   obtain ⟨c, h3, _, _, h4, _⟩ := trFn_inv h2
   exact ⟨func, c, h1, h4, h3⟩
  ·exact hX.enters _ _ _ _ he hlt
 ok := fun f args ins rs outs he hlt => by
  simp only [evFn] at he
  split at he
  ·rename_i fn hfn
   have k := evFnC_ok ht hF n hfn he
   intro x vals hB hi hal har hlv
   refine k x vals hB hi (by rw [canonA_len]; exact hal) (fun i a v h1 h2 => ?_) fun id hid => hlv id (by rwa [canonA_refs] at hid)
   obtain ⟨b, h3, h4⟩ := canonA_get h1
   rcases h4 with rfl | rfl
   ·exact har i a v h3 h2
   ·exact (har i b v h3 h2).canon
  ·exact hX.ok _ _ _ _ _ he hlt
theorem evN_ok {tab : Nat → Option Fn} (ht : TabOk P tab) (hX : XOk P G) (hg : G.gf = true → ∀ g, G.G g = []) : ∀ n, FnsOk P G (evN tab G n)
 | 0 => ⟨fun f args ins rs outs he => by simp [evN] at he, fun f args ins rs outs he => by simp [evN] at he, fun f args ins r he => by simp [evN] at he, hg⟩
 | n + 1 => evFn_ok ht hX (evN_ok ht hX hg n) n
end
end Go.Ev
set_option linter.unusedSimpArgs false
set_option linter.unusedVariables false
namespace Go.Ev
def Evt {α : Type} (s : Nat → Option α) (r : α) : Prop := ∃ n0, ∀ n, n0 ≤ n → s n = some r
theorem Evt.uniq {α : Type} {s : Nat → Option α} {r u : α} (h : Evt s r) (k : Evt s u) : r = u := by
 obtain ⟨n, hn⟩ := h
 obtain ⟨m, hm⟩ := k
 have h1 := hn (max n m) (Nat.le_max_left _ _)
 have h2 := hm (max n m) (Nat.le_max_right _ _)
 rw [h1] at h2
 injection h2
open Classical in
noncomputable def lim {α : Type} (s : Nat → Option α) : Option α := if h : ∃ r, Evt s r then some (Classical.choose h) else none
theorem lim_of {α : Type} {s : Nat → Option α} {r : α} (h : Evt s r) : lim s = some r := by
 unfold lim
 have hex : ∃ r, Evt s r := ⟨r, h⟩
 rw [dif_pos hex]
 exact congrArg some ((Classical.choose_spec hex).uniq h)
theorem lim_some {α : Type} {s : Nat → Option α} {r : α} (h : lim s = some r) : Evt s r := by
 unfold lim at h
 split at h
 ·rename_i hex
  injection h with h
  subst h
  exact Classical.choose_spec hex
 ·simp at h
noncomputable def LoopL (step : St → Option (Ex × St)) (st : St) : Option (Ex × St) := lim fun n => loopN n step st
noncomputable def Ev (tab : Nat → Option Fn) (G : Cf) : FnEv := fun f args ins => lim fun n => evN tab G n f args ins
theorem lim_shift {α : Type} (s : Nat → Option α) : lim (fun n => s (n + 1)) = lim s := by
 cases h : lim s with
 | some r =>
  obtain ⟨n0, hn⟩ := lim_some h
  exact lim_of ⟨n0, fun n hle => hn (n + 1) (by omega)⟩
 | none =>
  cases k : lim (fun n => s (n + 1)) with
  | none => rfl
  | some r =>
   obtain ⟨n0, hn⟩ := lim_some k
   have : lim s = some r := lim_of ⟨n0 + 1, fun n hle => by
    obtain ⟨m, rfl⟩ : ∃ m, n = m + 1 := ⟨n - 1, by omega⟩
    exact hn m (by omega)⟩
   rw [h] at this
   simp at this
theorem lim_const {α : Type} (r : Option α) : lim (fun _ => r) = r := by
 cases r with
 | some r => exact lim_of ⟨0, fun _ _ => rfl⟩
 | none =>
  cases k : lim (fun _ : Nat => (none : Option α)) with
  | none => rfl
  | some r =>
   obtain ⟨n0, hn⟩ := lim_some k
   have := hn n0 (Nat.le_refl _)
   simp at this
theorem LoopL_eq (step : St → Option (Ex × St)) (st : St) : LoopL step st = match step st with
  | some (.normal, st') => LoopL step st'
  | r => r := by
 have h1 : LoopL step st = lim fun n => loopN (n + 1) step st := (lim_shift _).symm
 rw [h1]
 simp only [loopN]
 cases h2 : step st with
 | none => exact lim_const _
 | some r =>
  obtain ⟨ex, s1⟩ := r
  cases ex with
  | normal => rfl
  | exit i => exact lim_const _
  | ret => exact lim_const _
section
variable {tab : Nat → Option Fn} {G : Cf}
theorem evt_fn {f : Nat} {args : List AV} {ins : List Obj} {r : List AV × List Obj} (h : Ev tab G f args ins = some r) : Evt (fun n => evN tab G n f args ins) r := lim_some h
theorem cont_call {h : Heap} {f : Nat} {args : List AV} {outs : List Nat} {r : AV × Heap} (he : evCall (Ev tab G) h f args outs = some r) : Evt (fun n => evCall (evN tab G n) h f args outs) r := by
 have he0 := he
 simp only [evCall] at he
 split at he
 ·rename_i hc
  split at he
  ·rename_i os hos
   split at he
   ·rename_i rs os' hF
    obtain ⟨n0, hn⟩ := evt_fn hF
    refine ⟨n0, fun n hle => ?_⟩
    rw [← he0]
    simp only [evCall, hos, hn n hle, hF]
   ·simp at he
  ·simp at he
 ·simp at he
theorem cont_op {st : St} {o : Op1} {r : AV × Heap} (he : ev1 G (Ev tab G) st o = some r) : Evt (fun n => ev1 G (evN tab G n) st o) r := by
 have same : (∀ F : FnEv, ev1 G F st o = ev1 G (Ev tab G) st o) → Evt (fun n => ev1 G (evN tab G n) st o) r := fun h => ⟨0, fun n _ => (h _).trans he⟩
 cases o <;> first
  | exact same fun F => rfl
  | skip
 case qcall f args outs =>
  have he0 := he
  simp only [ev1, Op1.cls] at he
  split at he
  ·rename_i v al h1
   simp only [evP] at h1
   split at h1
   ·split at h1
    ·rename_i rs os hF
     obtain ⟨n0, hn⟩ := evt_fn hF
     refine ⟨n0, fun n hle => ?_⟩
     rw [← he0]
     simp only [ev1, Op1.cls, evP, hn n hle, hF]
    ·simp at h1
   ·simp at h1
  ·simp at he
 case call f args outs =>
  simp only [ev1, Op1.cls, evW] at he ⊢
  exact cont_call he
 case callv g args outs =>
  simp only [ev1, Op1.cls, evW] at he ⊢
  split at he
  ·rename_i f caps hg
   split at he
   ·rename_i hlt
    simp only [hlt, if_true]
    exact cont_call he
   ·simp at he
  ·simp at he
 case bcall f args outs =>
  have he0 := he
  simp only [ev1, Op1.cls, evW] at he
  split at he
  ·rename_i as h1
   split at he
   ·split at he
    ·rename_i rs os hF
     obtain ⟨n0, hn⟩ := evt_fn hF
     refine ⟨n0, fun n hle => ?_⟩
     rw [← he0]
     simp only [ev1, Op1.cls, evW, h1, hn n hle, hF]
    ·simp at he
   ·simp at he
  ·simp at he
theorem cont_opr {st st' : St} {o : Opr} (he : evOp G (Ev tab G) o st = some st') : Evt (fun n => evOp G (evN tab G n) o st) st' := by
 have he0 := he
 simp only [evOp] at he
 split at he
 ·rename_i hg
  split at he
  ·rename_i s1 hf
   split at he
   ·rename_i v h h1
    obtain ⟨n0, hn⟩ := cont_op h1
    refine ⟨n0, fun n hle => ?_⟩
    rw [← he0]
    simp only [evOp, hg, hf, hn n hle, h1]
   ·simp at he
  ·simp at he
 ·rename_i hg
  refine ⟨0, fun n _ => ?_⟩
  rw [← he0]
  simp only [evOp, hg]
 ·simp at he
theorem cont_ops : ∀ {ops : List Opr} {st st' : St}, evOps G (Ev tab G) ops st = some st' → ∃ n0, ∀ n, n0 ≤ n → evOps G (evN tab G n) ops st = some st' ∧ feet G (evN tab G n) ops st = feet G (Ev tab G) ops st ∧ sts G (evN tab G n) ops st = sts G (Ev tab G) ops st
 | [], st, st', he => ⟨0, fun n _ => ⟨he, rfl, rfl⟩⟩
 | o :: ops, st, st', he => by
  simp only [evOps] at he
  split at he
  ·rename_i s1 h1
   obtain ⟨n0, hn⟩ := cont_opr h1
   obtain ⟨m0, hm⟩ := cont_ops he
   refine ⟨max n0 m0, fun n hle => ?_⟩
   have e1 := hn n (by omega)
   obtain ⟨e2, e3, e4⟩ := hm n (by omega)
   exact ⟨by simp only [evOps, e1, e2], by simp only [feet, e1, h1, e3], by simp only [sts, e1, h1, e4]⟩
  ·simp at he
theorem cont_loop {sN : Nat → St → Option (Ex × St)} {s : St → Option (Ex × St)} (hs : ∀ st r, s st = some r → Evt (fun n => sN n st) r) : ∀ (k : Nat) {st : St} {r : Ex × St}, loopN k s st = some r → ∃ n0, ∀ m n, n0 ≤ m → n0 ≤ n → loopN m (sN n) st = some r
 | 0, st, r, he => by simp [loopN] at he
 | k + 1, st, r, he => by
  simp only [loopN] at he
  split at he
  ·rename_i s1 h1
   obtain ⟨n0, hn⟩ := hs _ _ h1
   obtain ⟨m0, hm⟩ := cont_loop hs k he
   refine ⟨max n0 m0 + 1, fun m n h2 h3 => ?_⟩
   obtain ⟨m, rfl⟩ : ∃ q, m = q + 1 := ⟨m - 1, by omega⟩
   simp only [loopN, hn n (by omega)]
   exact hm m n (by omega) (by omega)
  ·rename_i hne
   obtain ⟨n0, hn⟩ := hs _ _ he
   refine ⟨n0 + 1, fun m n h2 h3 => ?_⟩
   obtain ⟨m, rfl⟩ : ∃ q, m = q + 1 := ⟨m - 1, by omega⟩
   simp only [loopN, hn n (by omega)]
   obtain ⟨ex, s1⟩ := r
   cases ex with
   | normal => exact absurd he (hne s1)
   | exit i => rfl
   | ret => rfl
theorem cont_ir (ns : Nat) : ∀ (ir : IR) {st : St} {r : Ex × St}, evIR G LoopL (Ev tab G) ns ir st = some r → Evt (fun n => evIR G (fun s st => loopN n s st) (evN tab G n) ns ir st) r := by
 intro ir
 induction ir with
 | skip => exact fun {st r} he => ⟨0, fun n _ => he⟩
 | reg pairs ops =>
  intro st r he
  have he0 := he
  simp only [evIR] at he
  split at he
  ·rename_i hp
   split at he
   ·rename_i s1 h1
    obtain ⟨n0, hn⟩ := cont_ops h1
    refine ⟨n0, fun n hle => ?_⟩
    obtain ⟨e1, e2, e3⟩ := hn n hle
    have hp' : okPairs G (evN tab G n) pairs ops st = true := by simpa only [okPairs, e2, e3] using hp
    simp only [evIR, hp', e1, if_true]
    exact he
   ·simp at he
  ·simp at he
 | seq a b iha ihb =>
  intro st r he
  simp only [evIR] at he
  split at he
  ·rename_i s1 h1
   obtain ⟨n0, hn⟩ := iha h1
   obtain ⟨m0, hm⟩ := ihb he
   exact ⟨max n0 m0, fun n hle => by simp only [evIR, hn n (by omega), hm n (by omega)]⟩
  ·rename_i hne
   obtain ⟨n0, hn⟩ := iha he
   refine ⟨n0, fun n hle => ?_⟩
   simp only [evIR, hn n hle]
   obtain ⟨ex, s1⟩ := r
   cases ex with
   | normal => exact absurd he (hne s1)
   | exit i => rfl
   | ret => rfl
 | cond c a b iha ihb =>
  intro st r he
  simp only [evIR] at he ⊢
  split at he
  ·exact iha he
  ·exact ihb he
  ·simp at he
 | block id k b ih =>
  intro st r he
  have he0 := he
  simp only [evIR] at he
  split at he
  ·rename_i i s1 h1
   obtain ⟨n0, hn⟩ := ih h1
   exact ⟨n0, fun n hle => by simp only [evIR, hn n hle]; exact he⟩
  ·rename_i s1 h1
   obtain ⟨n0, hn⟩ := ih h1
   exact ⟨n0, fun n hle => by simp only [evIR, hn n hle]; exact he⟩
  ·rename_i hn1 hn2
   obtain ⟨n0, hn⟩ := ih he
   refine ⟨n0, fun n hle => ?_⟩
   simp only [evIR, hn n hle]
   obtain ⟨ex, s1⟩ := r
   cases ex with
   | normal => exact absurd he (hn2 s1)
   | exit i => exact absurd he (hn1 i s1)
   | ret => rfl
 | loop k b ih =>
  intro st r he
  simp only [evIR] at he ⊢
  obtain ⟨k0, hk⟩ := lim_some he
  obtain ⟨n0, hn⟩ := cont_loop (sN := fun n st => loopEnd ns k (evIR G (fun s st => loopN n s st) (evN tab G n) ns b st)) (fun st r h => by
   unfold loopEnd at h
   split at h
   ·rename_i s1 h1
    obtain ⟨m, hm⟩ := ih h1
    exact ⟨m, fun n hle => by simp only [hm n hle, loopEnd]; exact h⟩
   ·rename_i hne
    obtain ⟨m, hm⟩ := ih h
    refine ⟨m, fun n hle => ?_⟩
    simp only [hm n hle, loopEnd]
    obtain ⟨ex, s1⟩ := r
    cases ex with
    | normal => exact absurd h (hne s1)
    | exit i => rfl
    | ret => rfl) k0 (hk k0 (Nat.le_refl _))
  exact ⟨n0, fun n hle => hn n n hle hle⟩
 | exit id k => exact fun {st r} he => ⟨0, fun n _ => he⟩
 | ret k => exact fun {st r} he => ⟨0, fun n _ => he⟩
theorem cont_fn1 {fn : Fn} {args : List AV} {ins : List Obj} {r : List AV × List Obj} (he : evFn1 G LoopL (Ev tab G) fn args ins = some r) : Evt (fun n => evFn1 G (fun s st => loopN n s st) (evN tab G n) fn args ins) r := by
 unfold evFn1 at he ⊢
 split at he
 ·rename_i hlen
  simp only [if_pos hlen]
  split at he
  ·rename_i st h1
   obtain ⟨n0, hn⟩ := cont_ir fn.ns fn.body h1
   exact ⟨n0, fun n hle => by simp only [hn n hle, he]⟩
  ·rename_i st h1
   obtain ⟨n0, hn⟩ := cont_ir fn.ns fn.body h1
   exact ⟨n0, fun n hle => by simp only [hn n hle, he]⟩
  ·simp at he
 ·simp at he
theorem cont_fnC {fn : Fn} {args : List AV} {ins : List Obj} {r : List AV × List Obj} (he : evFnC G LoopL (Ev tab G) fn args ins = some r) : Evt (fun n => evFnC G (fun s st => loopN n s st) (evN tab G n) fn args ins) r := by
 have he0 := he
 unfold evFnC at he
 split at he
 ·rename_i hq
  split at he
  ·obtain ⟨e1, e2⟩ := both_some he
   obtain ⟨n1, h1⟩ := cont_fn1 e1
   obtain ⟨n2, h2⟩ := cont_fn1 e2
   exact ⟨max n1 n2, fun n hle => by
    simp only [evFnC, hq, if_true, h1 n (by omega), h2 n (by omega)]
    rw [e1, e2] at he
    exact he⟩
  ·obtain ⟨n1, h1⟩ := cont_fn1 he
   refine ⟨n1, fun n hle => ?_⟩
   simp only [evFnC, hq, if_true]
   exact h1 n hle
 ·rename_i hq
  obtain ⟨n1, h1⟩ := cont_fn1 he
  exact ⟨n1, fun n hle => by simp only [evFnC, if_neg hq]; exact h1 n hle⟩
theorem Ev_of {f : Nat} {args : List AV} {ins : List Obj} {r : List AV × List Obj} (he : evFn tab G LoopL (Ev tab G) f args ins = some r) : Ev tab G f args ins = some r := by
 have key : Evt (fun n => evFn tab G (fun s st => loopN n s st) (evN tab G n) f args ins) r := by
  simp only [evFn] at he
  split at he
  ·rename_i fn hfn
   obtain ⟨n1, h1⟩ := cont_fnC he
   exact ⟨n1, fun n hle => by simp only [evFn, hfn]; exact h1 n hle⟩
  ·rename_i hfn
   exact ⟨0, fun n _ => by simp only [evFn, hfn]; exact he⟩
 obtain ⟨n0, hn⟩ := key
 refine lim_of ⟨n0 + 1, fun n hle => ?_⟩
 obtain ⟨m, rfl⟩ : ∃ q, n = q + 1 := ⟨n - 1, by omega⟩
 exact hn m (by omega)
theorem Ev_fn {f : Nat} {fn : Fn} {args : List AV} {ins : List Obj} {r : List AV × List Obj} (ht : tab f = some fn) (hq : fn.nilq = false) (h : evFn1 G LoopL (Ev tab G) fn (canonA fn.raw args) ins = some r) : Ev tab G f args ins = some r := by
 refine Ev_of ?_
 simp only [evFn, ht, evFnC, hq, Bool.false_eq_true, if_false]
 exact h
theorem canon1_idem (a : AV) : a.canon1.canon1 = a.canon1 := by cases a <;> rfl
theorem canon_idem (a : AV) : a.canon.canon = a.canon := by
 cases a <;> try rfl
 simp only [AV.canon, List.map_map]
 congr 1
 exact List.map_congr_left fun b _ => canon1_idem b
theorem canonA_idem : ∀ (k : List Bool) (l : List AV), canonA k (canonA k l) = canonA k l
 | [], [] => rfl
 | true :: k, [] => rfl
 | false :: k, [] => rfl
 | [], b :: l => by simp [canonA, canon_idem, canonA_idem [] l]
 | true :: k, b :: l => by simp [canonA, canonA_idem k l]
 | false :: k, b :: l => by simp [canonA, canon_idem, canonA_idem k l]
def cArgs (tab : Nat → Option Fn) (f : Nat) (args : List AV) : List AV := match tab f with
 | some fn => canonA fn.raw args
 | none => args
theorem Ev_canon (f : Nat) (args : List AV) (ins : List Obj) : Ev tab G f args ins = Ev tab G f (cArgs tab f args) ins := by
 unfold cArgs
 cases ht : tab f with
 | none => rfl
 | some fn =>
  have h : ∀ n, evN tab G n f args ins = evN tab G n f (canonA fn.raw args) ins := fun n => by
   cases n with
   | zero => rfl
   | succ n => simp only [evN, evFn, ht, canonA_idem]
  unfold Ev
  congr 1
  funext n
  exact h n
theorem Ev_ok {P : Program} (ht : TabOk P tab) (hX : XOk P G) (hg : G.gf = true → ∀ g, G.G g = []) {f : Nat} {args : List AV} {ins : List Obj} {rs : List AV} {outs : List Obj} (he : Ev tab G f args ins = some (rs, outs)) (hlt : f < 2000000 := by decide) : Contract P G (real f) args ins rs outs := by
 obtain ⟨n0, hn⟩ := evt_fn he
 exact (evN_ok ht hX hg n0).ok f args ins rs outs (hn n0 (Nat.le_refl _)) hlt
end
end Go.Ev
