/-
  Values and objects under other names: what a call hands down, and what comes back.
-/
import Derived.Test.YtdgfbfkjdflabaaEvB
import Derived.LaidEql
set_option linter.unusedSimpArgs false
set_option linter.unusedVariables false
namespace Go.Ev
mutual
def AV.tr (r : Nat → Nat) (g : Bool → Bool) : AV → AV
 | .row id n => .row (r id) n
 | .ptr id o => .ptr (r id) o
 | .mp id => .mp (r id)
 | .eptr id n i k => .eptr (r id) n i k
 | .sl o l => .sl (g o) l
 | .daddr o l => .daddr (g o) l
 | .agg l => .agg (trL r g l)
 | .tup l => .tup (trL r g l)
 | .clos f l => .clos f (trL r g l)
 | .ifc t v => .ifc t (v.tr r g)
 | v => v
def trL (r : Nat → Nat) (g : Bool → Bool) : List AV → List AV
 | [] => []
 | a :: l => a.tr r g :: trL r g l
end
theorem trL_map (r : Nat → Nat) (g : Bool → Bool) (l : List AV) : trL r g l = l.map (AV.tr r g) := by
 induction l with
 | nil => rfl
 | cons a l ih => simp [trL, ih]
mutual
theorem AV.ren_tr (r : Nat → Nat) : ∀ a : AV, a.ren r = a.tr r (fun o => o)
 | .undef => rfl
 | .s v => rfl
 | .sl o l => rfl
 | .nilsl => rfl
 | .esl => rfl
 | .row id n => rfl
 | .ptr id o => rfl
 | .mp id => rfl
 | .eptr id n i k => rfl
 | .daddr o l => rfl
 | .agg l => by simp only [AV.ren, AV.tr]; rw [renL_tr r l]
 | .tup l => by simp only [AV.ren, AV.tr]; rw [renL_tr r l]
 | .ifc t v => by simp only [AV.ren, AV.tr]; rw [AV.ren_tr r v]
 | .clos f l => by simp only [AV.ren, AV.tr]; rw [renL_tr r l]
theorem renL_tr (r : Nat → Nat) : ∀ l : List AV, renL r l = trL r (fun o => o) l
 | [] => rfl
 | a :: l => by simp only [renL, trL]; rw [AV.ren_tr r a, renL_tr r l]
end
mutual
theorem AV.age_tr (r : Nat → Nat) (g : Bool → Bool) (c : Bool) : ∀ a : AV, (a.tr r g).age c = a.tr r (fun _ => c)
 | .undef => rfl
 | .s v => rfl
 | .sl o l => rfl
 | .nilsl => rfl
 | .esl => rfl
 | .row id n => rfl
 | .ptr id o => rfl
 | .mp id => rfl
 | .eptr id n i k => rfl
 | .daddr o l => rfl
 | .agg l => by simp only [AV.age, AV.tr]; rw [ageL_tr r g c l]
 | .tup l => by simp only [AV.age, AV.tr]; rw [ageL_tr r g c l]
 | .ifc t v => by simp only [AV.age, AV.tr]; rw [AV.age_tr r g c v]
 | .clos f l => by simp only [AV.age, AV.tr]; rw [ageL_tr r g c l]
theorem ageL_tr (r : Nat → Nat) (g : Bool → Bool) (c : Bool) : ∀ l : List AV, ageL c (trL r g l) = trL r (fun _ => c) l
 | [] => rfl
 | a :: l => by simp only [ageL, trL]; rw [AV.age_tr r g c a, ageL_tr r g c l]
end
mutual
theorem AV.refs_tr (r : Nat → Nat) (g : Bool → Bool) : ∀ a : AV, (a.tr r g).refs = a.refs.map r
 | .undef => rfl
 | .s v => rfl
 | .sl o l => rfl
 | .nilsl => rfl
 | .esl => rfl
 | .row id n => rfl
 | .ptr id o => rfl
 | .mp id => rfl
 | .eptr id n i k => rfl
 | .daddr o l => rfl
 | .agg l => by simp only [AV.refs, AV.tr]; exact refsL_tr r g l
 | .tup l => by simp only [AV.refs, AV.tr]; exact refsL_tr r g l
 | .ifc t v => by simp only [AV.refs, AV.tr]; exact AV.refs_tr r g v
 | .clos f l => by simp only [AV.refs, AV.tr]; exact refsL_tr r g l
theorem refsL_tr (r : Nat → Nat) (g : Bool → Bool) : ∀ l : List AV, refsL (trL r g l) = (refsL l).map r
 | [] => rfl
 | a :: l => by simp only [refsL, trL, List.map_append]; rw [AV.refs_tr r g a, refsL_tr r g l]
end
def Obj.tr (r : Nat → Nat) (g : Bool → Bool) : Obj → Obj
 | .var l => .var (trL r g l)
 | .row e s o f l => .row e s (g o) f l
 | o => o
theorem Obj.ren_tr (r : Nat → Nat) (o : Obj) : o.ren r = o.tr r (fun o => o) := by
 cases o <;> simp [Obj.ren, Obj.tr, renL_tr]
theorem Obj.age_tr (r : Nat → Nat) (g : Bool → Bool) (c : Bool) (o : Obj) : (o.tr r g).age c = o.tr r (fun _ => c) := by
 cases o <;> simp [Obj.age, Obj.tr, ageL_tr]
theorem Obj.refs_tr (r : Nat → Nat) (g : Bool → Bool) (o : Obj) : (o.tr r g).refs = o.refs.map r := by
 cases o <;> simp [Obj.refs, Obj.tr, refsL_tr]
theorem isOldL_mem {l : List AV} {i : Nat} {a : AV} (h : l[i]? = some a) (ho : a.isOld = true) : isOldL l = true := by
 induction l generalizing i with
 | nil => simp at h
 | cons b r ih =>
  simp only [isOldL, Bool.or_eq_true]
  cases i with
  | zero => simp at h; subst h; exact .inl ho
  | succ i => exact .inr (ih (by simpa using h))
structure TrId (x : Cx) (h : Heap) (x' : Cx) (h' : Heap) (r : Nat → Nat) (id : Nat) : Prop where
 var : ∀ cs', getO h' (r id) = some (.var cs') → (∃ cs, getO h id = some (.var cs)) ∧ x'.φ (r id) = x.φ id
 row : ∀ e s o f l, getO h' (r id) = some (.row e s o f l) → ∃ o' f', getO h id = some (.row e s o' f' l) ∧ x'.φ (r id) = x.φ id ∧ x'.κ (r id) = x.κ id
 big : ∀ d, getO h' (r id) = some (.big d) → getO h id = some (.big d) ∧ x'.φ (r id) = x.φ id
def TrSh (x x' : Cx) (g : Bool → Bool) (ob : Bool) : Prop :=
 ∀ o b q, (o = true → ob = true) → x.sh o b q → x'.sh (g o) b q ∧ x'.w.cell? ⟨b, q, none⟩ = x.w.cell? ⟨b, q, none⟩
theorem RelV.tr {x x' : Cx} {h h' : Heap} {r : Nat → Nat} {g : Bool → Bool} {ob : Bool} (hS : TrSh x x' g ob) {a : AV} {v : Value} (hr : RelV x h a v) (ho : a.isOld = true → ob = true) (hid : ∀ id ∈ a.refs, TrId x h x' h' r id) : RelV x' h' (a.tr r g) v := by
 induction hr with
 | undef v => exact .undef v
 | s v => exact .s v
 | sl old l v hr => exact .sl (g old) l v (hr.mono fun b q h => hS old b q (fun h' => ho h') h)
 | nilsl => exact .nilsl
 | esl a cap => exact .esl a cap
 | row id n v hv hle hr =>
  obtain ⟨_, h2, _⟩ := hid id (by simp [AV.refs])
  refine .row (r id) n v hv (fun e s o f l hg => ?_) fun e s o f l hg hl => ?_
  ·obtain ⟨o', f', g0, _, _⟩ := h2 e s o f l hg
   exact hle _ _ _ _ _ g0
  ·obtain ⟨o', f', g0, e1, e2⟩ := h2 e s o f l hg
   rw [e1, e2]
   exact hr _ _ _ _ _ g0 hl
 | mp id v hv hb =>
  obtain ⟨_, _, h3⟩ := hid id (by simp [AV.refs])
  refine .mp (r id) v hv fun d hg => ?_
  obtain ⟨g0, e1⟩ := h3 d hg
  rw [e1]
  exact hb d g0
 | ptr id off v hv hr hb =>
  obtain ⟨h1, _, h3⟩ := hid id (by simp [AV.refs])
  refine .ptr (r id) off v hv (fun cs hg => ?_) fun d hg => ?_
  ·obtain ⟨⟨c0, g0⟩, e1⟩ := h1 cs hg
   rw [e1]
   exact hr c0 g0
  ·obtain ⟨g0, e1⟩ := h3 d hg
   rw [e1]
   exact hb d g0
 | eptr id n i k v hv hle hr =>
  obtain ⟨_, h2, _⟩ := hid id (by simp [AV.refs])
  refine .eptr (r id) n i k v hv (fun e s o f l hg => ?_) fun e s o f l hg hl => ?_
  ·obtain ⟨o', f', g0, _, _⟩ := h2 e s o f l hg
   exact hle _ _ _ _ _ g0
  ·obtain ⟨o', f', g0, e1, e2⟩ := h2 e s o f l hg
   rw [e1]
   exact hr _ _ _ _ _ g0 hl
 | daddr old l b o vals hc hr =>
  refine .daddr (g old) l b o vals (fun j hj => ?_) fun j c hj => (hr j c hj).mono fun b q h => hS old b q (fun h' => ho h') h
  obtain ⟨h1, h2⟩ := hc j hj
  have := hS old _ _ (fun h' => ho h') h1
  exact ⟨this.1, this.2.trans h2⟩
 | agg l vs hl _ ih =>
  refine .agg _ vs (by simp [trL_map, hl]) fun i a v h1 h2 => ?_
  rw [trL_map, List.getElem?_map, Option.map_eq_some_iff] at h1
  obtain ⟨a0, h3, rfl⟩ := h1
  exact ih i a0 v h3 h2 (fun h' => ho (by simp only [AV.isOld]; exact isOldL_mem h3 h')) fun id hid' => hid id (by simp only [AV.refs]; exact mem_refsL h3 hid')
 | tup l vs hl _ ih =>
  refine .tup _ vs (by simp [trL_map, hl]) fun i a v h1 h2 => ?_
  rw [trL_map, List.getElem?_map, Option.map_eq_some_iff] at h1
  obtain ⟨a0, h3, rfl⟩ := h1
  exact ih i a0 v h3 h2 (fun h' => ho (by simp only [AV.isOld]; exact isOldL_mem h3 h')) fun id hid' => hid id (by simp only [AV.refs]; exact mem_refsL h3 hid')
 | ifc t a v _ ih => exact .ifc t _ v (ih (fun h' => ho (by simpa [AV.isOld] using h')) fun id hid' => hid id (by simpa [AV.refs] using hid'))
 | clos f l vs hl _ ih =>
  refine .clos f _ vs (by simp [trL_map, hl]) fun i a v h1 h2 => ?_
  rw [trL_map, List.getElem?_map, Option.map_eq_some_iff] at h1
  obtain ⟨a0, h3, rfl⟩ := h1
  exact ih i a0 v h3 h2 (fun h' => ho (by simp only [AV.isOld]; exact isOldL_mem h3 h')) fun id hid' => hid id (by simp only [AV.refs]; exact mem_refsL h3 hid')
theorem ObjRel.tr {x x' : Cx} {h h' : Heap} {r : Nat → Nat} {g : Bool → Bool} {ob : Bool} (hS : TrSh x x' g ob) {id : Nat} {o : Obj} (hr : ObjRel x h id o) (ho : o.isOld = true → ob = true) (hid : ∀ j ∈ o.refs, TrId x h x' h' r j)
  (hb : x'.w.heap[x.φ id]? = x.w.heap[x.φ id]?) (hp : x'.φ (r id) = x.φ id) (hk : x'.κ (r id) = x.κ id) (hB : ∀ e s o0 f l, o = .row e s o0 f l → g o0 = false → x'.B0 ≤ x.φ id)
  (hbg : ∀ d, o = .big d → x'.bg = x.bg ∧ x'.Ω (r id) = x.Ω id ∧ (∀ c, x.Ω id c → x'.w.heap[c]? = x.w.heap[c]?) ∧ ∀ c q, x.Ω id c → x'.S c q → x.S c q) : ObjRel x' h' (r id) (o.tr r g) := by
 cases o with
 | dead => trivial
 | big d =>
  obtain ⟨h0, h1, h2, h3⟩ := hbg d rfl
  show x'.bg.rel d x'.w x'.S (x'.φ (r id)) (x'.Ω (r id))
  rw [h0, hp, h1]
  exact x.bg.mono hr hb h2 (fun b q hh => let ⟨k1, k2⟩ := hS true b q (fun _ => ho rfl) ⟨hh, .inl rfl⟩; ⟨k1.1, k2⟩) h3
 | var cells =>
  obtain ⟨arr, e, h1, h2, h3⟩ := hr
  refine ⟨arr, e, by rw [hp, hb]; exact h1, by simpa [trL_map] using h2, fun i a ha => ?_⟩
  rw [trL_map, List.getElem?_map, Option.map_eq_some_iff] at ha
  obtain ⟨a0, h4, rfl⟩ := ha
  obtain ⟨v, hv, h1v, hrv⟩ := h3 i a0 h4
  exact ⟨v, hv, h1v, hrv.tr hS (fun h' => ho (by simp only [Obj.isOld]; exact isOldL_mem h4 h')) fun j hj => hid j (by simp only [Obj.refs]; exact mem_refsL h4 hj)⟩
 | row ety sz old fr l =>
  obtain ⟨arr, h1, h2, h3, h4, h5, h6, h7, h8, h9, h10⟩ := hr
  refine ⟨arr, by rw [hp, hb]; exact h1, by rw [hk]; exact h2, by rw [hk]; exact h3, by rw [hk]; exact h4, h5, h6, h7, fun i k e c hi hc => ?_, fun hf j hj => ?_, fun hg => ?_⟩
  ·obtain ⟨v, hv, hrv⟩ := h8 i k e c hi hc
   exact ⟨v, hv, hrv.mono fun b q hh => hS old b q (fun h' => ho h') hh⟩
  ·rw [hp]
   exact (hS old _ _ (fun h' => ho h') (h9 hf j hj)).1
  ·rw [hp]
   exact hB _ _ _ _ _ rfl hg
mutual
theorem AV.tr_id : ∀ a : AV, a.tr (fun i => i) (fun o => o) = a
 | .undef => rfl
 | .s v => rfl
 | .sl o l => rfl
 | .nilsl => rfl
 | .esl => rfl
 | .row id n => rfl
 | .ptr id o => rfl
 | .mp id => rfl
 | .eptr id n i k => rfl
 | .daddr o l => rfl
 | .agg l => by simp only [AV.tr]; rw [trL_id l]
 | .tup l => by simp only [AV.tr]; rw [trL_id l]
 | .ifc t v => by simp only [AV.tr]; rw [AV.tr_id v]
 | .clos f l => by simp only [AV.tr]; rw [trL_id l]
theorem trL_id : ∀ l : List AV, trL (fun i => i) (fun o => o) l = l
 | [] => rfl
 | a :: l => by simp only [trL]; rw [AV.tr_id a, trL_id l]
end
theorem ageL_eq (l : List AV) : ageL true l = trL (fun i => i) (fun _ => true) l := by
 have := ageL_tr (fun i => i) (fun o => o) true l
 rwa [trL_id] at this
end Go.Ev
set_option linter.unusedSimpArgs false
set_option linter.unusedVariables false
namespace Go.Ev
def mkRes (us : List Value) : Value := match us with
 | [u] => u
 | us => .tuple us.toArray
structure Post (G : Cf) (x : Cx) (ins : List Obj) (rs : List AV) (outs : List Obj) (x' : Cx) (us : List Value) : Prop where
 inv : Inv G x' (outs.map some)
 step : Step (fun _ => True) x (ins.map some) x' (outs.map some)
 len : rs.length = us.length
 rel : ∀ (i : Nat) (a : AV) (v : Value), rs[i]? = some a → us[i]? = some v → RelV x' (outs.map some) a v
 live : Live (outs.map some) rs
def Contract (P : Program) (G : Cf) (f : FuncId) (args : List AV) (ins : List Obj) (rs : List AV) (outs : List Obj) : Prop :=
 ∀ (x : Cx) (vals : List Value), x.B0 = x.w.heap.size → Inv G x (ins.map some) → args.length = vals.length → (∀ (i : Nat) (a : AV) (v : Value), args[i]? = some a → vals[i]? = some v → RelV x (ins.map some) a v) → Live (ins.map some) args →
  Calls P f vals.toArray x.w fun e w' => ∃ us, e = .returned (mkRes us) ∧ ∃ x' : Cx, x'.w = w' ∧ Post G x ins rs outs x' us
def FnOk (P : Program) (G : Cf) (F : FnEv) : Prop := ∀ f args ins rs outs, F f args ins = some (rs, outs) → f < 2000000 → Contract P G (real f) args ins rs outs
def pInstr (p : Nat) (vals : List Value) : Sem Value := match p % 4, vals with
 | 0, [m, k] => Instr.lookup (p / 4) m k false
 | 1, [m, k, v] => do
  Instr.mapUpdate (p / 4) m k v
  pure undef
 | 2, [] => Instr.makeMap (p / 4) none
 | _, _ => pure undef
def PContract (P : Program) (G : Cf) (p : Nat) (args : List AV) (ins : List Obj) (rs : List AV) (outs : List Obj) : Prop :=
 ∀ (x : Cx) (vals : List Value), x.B0 = x.w.heap.size → Inv G x (ins.map some) → args.length = vals.length → (∀ (i : Nat) (a : AV) (v : Value), args[i]? = some a → vals[i]? = some v → RelV x (ins.map some) a v) → Live (ins.map some) args →
  ∃ us x', (pInstr p vals).run P x.w = .ok (mkRes us) x'.w ∧ Post G x ins rs outs x' us
def POk (P : Program) (G : Cf) (F : FnEv) : Prop := ∀ f args ins rs outs, F f args ins = some (rs, outs) → 2000000 ≤ f → PContract P G (f - 2000000) args ins rs outs
theorem getO_map (os : List Obj) (j : Nat) : getO (os.map some) j = os[j]? := by
 unfold getO
 rw [List.getD_eq_getElem?_getD, List.getElem?_map]
 cases os[j]? <;> rfl
theorem getAll_spec {h : Heap} : ∀ {ids : List Nat} {os : List Obj}, getAll h ids = some os → os.length = ids.length ∧ ∀ (j id : Nat), ids[j]? = some id → ∃ o, getO h id = some o ∧ os[j]? = some o
 | [], os, he => by
  simp only [getAll, Option.some.injEq] at he
  subst he
  exact ⟨rfl, fun j id h => by simp at h⟩
 | i :: is, os, he => by
  simp only [getAll] at he
  split at he
  ·rename_i o r h1 h2
   injection he with he
   subst he
   obtain ⟨h3, h4⟩ := getAll_spec h2
   refine ⟨by simp [h3], fun j id hj => ?_⟩
   cases j with
   | zero =>
    simp at hj
    subst hj
    exact ⟨o, h1, rfl⟩
   | succ j => simpa using h4 j id (by simpa using hj)
  ·simp at he
theorem idxOf_ne {i s : Nat} {l : List Nat} (h : i ≠ s) : (i :: l).idxOf s = l.idxOf s + 1 := by
 rw [List.idxOf_cons]
 have : (i == s) = false := by simpa using h
 rw [this]; rfl
theorem putAll_spec : ∀ {ids : List Nat} {os : List Obj} {h : Heap}, ids.Nodup → os.length = ids.length → (∀ id ∈ ids, id < h.length) → (putAll ids os h).length = h.length ∧
  (∀ s, s ∉ ids → (putAll ids os h)[s]? = h[s]?) ∧ ∀ s, getO (putAll ids os h) s = if s ∈ ids then os[ids.idxOf s]? else getO h s
 | [], os, h, _, _, _ => by
  refine ⟨by simp [putAll], fun s _ => by simp [putAll], fun s => by simp [putAll]⟩
 | i :: is, [], h, _, hl, _ => by simp at hl
 | i :: is, o :: os, h, hn, hl, hlt => by
  have hi : i < h.length := hlt i (by simp)
  obtain ⟨h1, h2, h3⟩ := putAll_spec (ids := is) (os := os) (h := h.set i (some o)) (List.nodup_cons.1 hn).2 (by simpa using hl) (fun id hid => by simpa using hlt id (by simp [hid]))
  simp only [putAll]
  refine ⟨by simpa using h1, fun s hs => ?_, fun s => ?_⟩
  ·rw [h2 s (fun h => hs (by simp [h])), List.getElem?_set_ne (fun h => hs (by simp [h]))]
  ·rw [h3]
   by_cases c : s ∈ is
   ·have hne : i ≠ s := by rintro rfl; exact (List.nodup_cons.1 hn).1 c
    rw [if_pos c, if_pos (by simp [c]), idxOf_ne hne]
    simp
   ·rw [if_neg c]
    by_cases c2 : s = i
    ·subst c2
     rw [if_pos (by simp), getO_set hi, if_pos rfl]
     simp
    ·rw [if_neg (by simp [c, c2]), getO_set hi, if_neg c2]
theorem alloc_spec : ∀ {al : List (Nat × Obj)} {h h' : Heap}, alloc al h = some h' → h'.length = h.length ∧ (al.map (·.1)).Nodup ∧ (∀ p ∈ al, h[p.1]? = some none) ∧
  ∀ s, getO h' s = if s ∈ al.map (·.1) then (al.map (·.2))[(al.map (·.1)).idxOf s]? else getO h s
 | [], h, h', he => by
  simp only [alloc, Option.some.injEq] at he
  subst he
  exact ⟨rfl, by simp, by simp, fun s => by simp⟩
 | (i, o) :: r, h, h', he => by
  simp only [alloc] at he
  split at he
  ·rename_i hi
   have hlt : i < h.length := (List.getElem?_eq_some_iff.1 hi).1
   obtain ⟨h1, h2, h3, h4⟩ := alloc_spec he
   have hni : i ∉ r.map (·.1) := fun hm => by
    obtain ⟨p, hp, hpe⟩ := List.mem_map.1 hm
    have := h3 p hp
    rw [hpe, List.getElem?_set_self hlt] at this
    simp at this
   refine ⟨by simpa using h1, by simp only [List.map_cons, List.nodup_cons]; exact ⟨hni, h2⟩, fun p hp => ?_, fun s => ?_⟩
   ·rcases List.mem_cons.1 hp with hp | hp
    ·subst hp; exact hi
    ·have hne : i ≠ p.1 := fun he => hni (he ▸ List.mem_map.2 ⟨p, hp, rfl⟩)
     have := h3 p hp
     rwa [List.getElem?_set_ne hne] at this
   ·rw [h4]
    simp only [List.map_cons]
    by_cases c : s ∈ r.map (·.1)
    ·have hne : i ≠ s := fun he => hni (he ▸ c)
     rw [if_pos c, if_pos (by simp only [List.mem_cons]; exact .inr c), idxOf_ne hne]
     simp
    ·rw [if_neg c]
     by_cases c2 : s = i
     ·subst c2
      rw [if_pos (by simp), getO_set hlt, if_pos rfl]
      simp
     ·rw [if_neg (by simp only [List.mem_cons, not_or]; exact ⟨c2, c⟩), getO_set hlt, if_neg c2]
  ·simp at he
theorem zip_fst {α β : Type} : ∀ {l : List α} {m : List β}, l.length = m.length → (l.zip m).map (·.1) = l ∧ (l.zip m).map (·.2) = m
 | [], [], _ => ⟨rfl, rfl⟩
 | [], _ :: _, h => by simp at h
 | _ :: _, [], h => by simp at h
 | a :: l, b :: m, h => by
  obtain ⟨h1, h2⟩ := zip_fst (l := l) (m := m) (by simpa using h)
  exact ⟨by simp [h1], by simp [h2]⟩
theorem call_heap {h h' : Heap} {ids outs : List Nat} {os2 : List Obj} (hn : ids.Nodup) (hlive : ∀ id ∈ ids, (getO h id).isSome) (hlen : os2.length = ids.length + outs.length)
  (ha : alloc (outs.zip (os2.drop ids.length)) (putAll ids (os2.take ids.length) h) = some h') :
  (ids ++ outs).Nodup ∧ (∀ o ∈ outs, getO h o = none) ∧ ∀ s, getO h' s = if s ∈ ids ++ outs then os2[(ids ++ outs).idxOf s]? else getO h s := by
 obtain ⟨h1, h2, h3⟩ := putAll_spec (h := h) (os := os2.take ids.length) hn (by simp; omega) (fun id hid => getO_lt (hlive id hid))
 obtain ⟨h4, h5, h6, h7⟩ := alloc_spec ha
 obtain ⟨z1, z2⟩ := zip_fst (l := outs) (m := os2.drop ids.length) (by simp; omega)
 rw [z1] at h5
 have hnone : ∀ o ∈ outs, (putAll ids (os2.take ids.length) h)[o]? = some none := fun o ho => by
  rw [← z1] at ho
  obtain ⟨p, hp, hpe⟩ := List.mem_map.1 ho
  rw [← hpe]
  exact h6 p hp
 have hdis : ∀ o ∈ outs, o ∉ ids := fun o ho hi => by
  have := h3 o
  rw [if_pos hi] at this
  have h8 : getO (putAll ids (os2.take ids.length) h) o = none := by
   unfold getO
   rw [List.getD_eq_getElem?_getD, hnone o ho]
   rfl
  rw [h8] at this
  have hlt : ids.idxOf o < (os2.take ids.length).length := by
   have := List.idxOf_lt_length_of_mem hi
   simp; omega
  rw [List.getElem?_eq_getElem hlt] at this
  simp at this
 refine ⟨List.nodup_append.2 ⟨hn, h5, fun a ha b hb hab => hdis b hb (hab ▸ ha)⟩, fun o ho => ?_, fun s => ?_⟩
 ·have := hnone o ho
  rw [h2 o (hdis o ho)] at this
  unfold getO
  rw [List.getD_eq_getElem?_getD, this]
  rfl
 ·rw [h7, z1, z2]
  by_cases c : s ∈ outs
  ·rw [if_pos c, if_pos (by simp [c]), List.idxOf_append, if_neg (hdis s c), List.getElem?_drop, Nat.add_comm]
  ·rw [if_neg c, h3]
   by_cases c2 : s ∈ ids
   ·rw [if_pos c2, if_pos (by simp [c2]), List.idxOf_append, if_pos c2, List.getElem?_take, if_pos (List.idxOf_lt_length_of_mem c2)]
   ·rw [if_neg c2, if_neg (by simp [c, c2])]
theorem idx_get {ids : List Nat} {id : Nat} (h : id ∈ ids) : ids[ids.idxOf id]? = some id ∧ ids.getD (ids.idxOf id) 0 = id := by
 have h1 : ids[ids.idxOf id]? = some id := by
  rw [List.getElem?_eq_getElem (List.idxOf_lt_length_of_mem h), List.getElem_idxOf]
 exact ⟨h1, by simp [List.getD, h1]⟩
theorem nodup_idx {ids : List Nat} (hn : ids.Nodup) {j id : Nat} (h : ids[j]? = some id) : ids.idxOf id = j := by
 obtain ⟨h1, h2⟩ := List.getElem?_eq_some_iff.1 h
 rw [← h2]
 exact hn.idxOf_getElem j h1
theorem closed_spec {h : Heap} {roots ids : List Nat} (hc : closed h roots ids = true) : (∀ i ∈ roots, i ∈ ids) ∧ (∀ i ∈ ids, (getO h i).isSome) ∧ ∀ i o, i ∈ ids → getO h i = some o → ∀ j ∈ o.refs, j ∈ ids := by
 simp only [closed, Bool.and_eq_true, List.all_eq_true, List.contains_iff_mem] at hc
 refine ⟨fun i hi => hc.1 i hi, fun i hi => (hc.2 i hi).1, fun i o hi hg j hj => ?_⟩
 have := (hc.2 i hi).2 j
 simp only [refsO, hg] at this
 exact this hj
theorem finish_rel {x : Cx} {h : Heap} {rs : List AV} {us : List Value} (hl : rs.length = us.length) (hr : ∀ (i : Nat) (a : AV) (v : Value), rs[i]? = some a → us[i]? = some v → RelV x h a v) : RelV x h (finishCall rs) (mkRes us) := by
 match rs, us, hl with
 | [], [], _ => exact .tup [] [] rfl fun i a v h _ => by simp at h
 | [r], [u], _ => exact hr 0 r u rfl rfl
 | r :: r2 :: rs, u :: u2 :: us, hl => exact .tup _ _ hl hr
theorem finish_refs {rs : List AV} {id : Nat} (h : id ∈ (finishCall rs).refs) : id ∈ refsL rs := by
 match rs with
 | [] => simpa [finishCall, AV.refs] using h
 | [r] => simpa [finishCall, refsL] using h
 | r :: r2 :: rs => simpa [finishCall, AV.refs] using h
theorem Calls.enter {P : Program} {o : Oper} {a : Act} {w : World} {f : FuncId} {vals : Array Value} {K : Act → World → Prop} {Q : Exit → Act → World → Prop} (hrun : (execOp a.eval o).run P w = .ok (.enter f vals) w) {R : Value → World → Prop}
  (hc : Calls P f vals w fun e w' => ∃ v, e = .returned v ∧ R v w') (hk : ∀ v w', R v w' → K (a.put o.dst v) w') : o.wp P a w K Q := by
 unfold Oper.wp
 rw [hrun]
 exact hc.mono fun e w' ⟨v, he, hr⟩ => by subst he; exact hk v w' hr
section
variable {P : Program} {G : Cf} {x : Cx} {a : Act} {F : FnEv}
theorem hcall_of {f : FuncId} {o : Oper} {vals : List Value} (hrun : (execOp a.eval o).run P x.w = .ok (.enter (real f) vals.toArray) x.w) (hF : FnOk P G F) (hlt : f < 2000000) (xc : Cx) (args' : List AV) (ins : List Obj) (rs : List AV) (os : List Obj) (hFe : F f args' ins = some (rs, os)) (hw : xc.w = x.w) (hB : xc.B0 = xc.w.heap.size) (hi : Inv G xc (ins.map some)) (hl : args'.length = vals.length) (hr : ∀ (i : Nat) (b : AV) (v : Value), args'[i]? = some b → vals[i]? = some v → RelV xc (ins.map some) b v) (hlv : Live (ins.map some) args') {K : Act → World → Prop} {Q : Exit → Act → World → Prop} (hk : ∀ us x1, Post G xc ins rs os x1 us → K (a.put o.dst (mkRes us)) x1.w) : o.wp P a x.w K Q := by
 have hc := hF f _ _ _ _ hFe hlt xc vals hB hi hl hr hlv
 rw [hw] at hc
 refine Calls.enter hrun (R := fun v w' => ∃ us, v = mkRes us ∧ ∃ x' : Cx, x'.w = w' ∧ Post G xc ins rs os x' us) (hc.mono fun e w' ⟨us, h1, h2⟩ => ⟨mkRes us, h1, us, rfl, h2⟩) ?_
 rintro _ w' ⟨us, rfl, x1, rfl, post⟩
 exact hk us x1 post
theorem pcall_of {f : FuncId} {o : Oper} {vals : List Value} (hrun : ∀ v w', (pInstr (f - 2000000) vals).run P x.w = .ok v w' → (execOp a.eval o).run P x.w = .ok (.value v) w' ∨ ((execOp a.eval o).run P x.w = .ok .skip w' ∧ v = undef)) (hF : POk P G F) (hlt : 2000000 ≤ f) (xc : Cx) (args' : List AV) (ins : List Obj) (rs : List AV) (os : List Obj) (hFe : F f args' ins = some (rs, os)) (hw : xc.w = x.w) (hB : xc.B0 = xc.w.heap.size) (hi : Inv G xc (ins.map some)) (hl : args'.length = vals.length) (hr : ∀ (i : Nat) (b : AV) (v : Value), args'[i]? = some b → vals[i]? = some v → RelV xc (ins.map some) b v) (hlv : Live (ins.map some) args') {K : Act → World → Prop} {Q : Exit → Act → World → Prop} (hk : ∀ us x1, Post G xc ins rs os x1 us → K (a.put o.dst (mkRes us)) x1.w) : o.wp P a x.w K Q := by
 obtain ⟨us, x1, h1, post⟩ := hF f _ _ _ _ hFe hlt xc vals hB hi hl hr hlv
 rw [hw] at h1
 have := hk us x1 post
 unfold Oper.wp
 rcases hrun _ _ h1 with h2 | ⟨h2, h3⟩
 ·rw [h2]; exact this
 ·rw [h2, Oper.upon_skip, ← h3]; exact this
theorem evCall_ok (hgf : G.gf = true → ∀ g, G.G g = []) {o : Oper} {f : FuncId} {h h' : Heap} {args : List AV} {vals : List Value} {outs : List Nat} {v : AV} (hi : Inv G x h) (hB : x.B0 ≤ x.w.heap.size)
  (hcall : ∀ (xc : Cx) (args' : List AV) (ins : List Obj) (rs : List AV) (os : List Obj), F f args' ins = some (rs, os) → xc.w = x.w → xc.B0 = xc.w.heap.size → Inv G xc (ins.map some) → args'.length = vals.length → (∀ (i : Nat) (b : AV) (v : Value), args'[i]? = some b → vals[i]? = some v → RelV xc (ins.map some) b v) → Live (ins.map some) args' → ∀ {K : Act → World → Prop} {Q : Exit → Act → World → Prop}, (∀ us x1, Post G xc ins rs os x1 us → K (a.put o.dst (mkRes us)) x1.w) → o.wp P a x.w K Q) (hal : args.length = vals.length) (har : ∀ (i : Nat) (a : AV) (v : Value), args[i]? = some a → vals[i]? = some v → RelV x h a v) (hlv : Live h args)
  (he : evCall F h f args outs = some (v, h')) : OpOk P o a G x h v h' := by
 simp only [evCall] at he
 generalize hids : reach h (refsL args) = ids at he
 split at he
 ·rename_i hcn
  simp only [Bool.and_eq_true, decide_eq_true_eq] at hcn
  obtain ⟨hcl, hnd⟩ := hcn
  obtain ⟨hroots, hlive, hrefs⟩ := closed_spec hcl
  split at he
  ·rename_i os hos
   obtain ⟨hosl, hosg⟩ := getAll_spec hos
   split at he
   ·rename_i rs os' hFe
    generalize fitO h outs os'.length ids.length = outs at he
    split at he
    ·rename_i hlen
     generalize hold : (isOldL args || os.any Obj.isOld || !G.gf) = old
     split at he
     ·rename_i h'' hal'
      injection he with he
      injection he with e1 e2
      subst e1 e2
      generalize hr : (fun i => ids.idxOf i) = r at hFe
      have hrr : ∀ i, r i = ids.idxOf i := fun i => by rw [← hr]
      have hargs' : ageL true (renL r args) = trL r (fun _ => true) args := by rw [renL_tr, ageL_tr]
      have hos' : (os.map fun o => (o.ren r).age true) = os.map (Obj.tr r fun _ => true) := by
       congr 1
       funext o
       rw [Obj.ren_tr, Obj.age_tr]
      rw [hargs', hos'] at hFe
      generalize hall : ids ++ outs = all at hal' ⊢
      have hfix : (Obj.ren fun i => all.getD i 0) = Obj.tr (fun i => all.getD i 0) (fun o => o) := by
       funext o
       exact Obj.ren_tr _ o
      have hfixr : renL (fun i => all.getD i 0) rs = trL (fun i => all.getD i 0) (fun o => o) rs := renL_tr _ rs
      rw [hfix] at hal'
      rw [List.map_drop, List.map_take] at hal'
      rw [hfixr]
      obtain ⟨hnda, hnone, hget⟩ := call_heap hnd hlive (by simpa using hlen) hal'
      rw [hall] at hnda hget
      have hal2 : all.length = os'.length := by rw [← hall, List.length_append, hlen]
      generalize hb : (fun i => all.getD i 0) = b at hal' hget ⊢
      have hbb : ∀ i, b i = all.getD i 0 := fun i => by rw [← hb]
      have hget2 : ∀ s, getO h'' s = if s ∈ all then (os'[all.idxOf s]?).map (Obj.tr b (fun o => o)) else getO h s := fun s => by
       rw [hget s]
       by_cases c : s ∈ all <;> simp [c]
      have hmem : ∀ id ∈ ids, id ∈ all := fun id hid => by rw [← hall]; simp [hid]
      have hidxa : ∀ id ∈ ids, all.idxOf id = ids.idxOf id := fun id hid => by rw [← hall, List.idxOf_append, if_pos hid]
      let xc : Cx := { w := x.w, S := fun k q => x.S k q ∧ (old = true ∨ x.B0 ≤ k), φ := fun j => x.φ (ids.getD j 0), κ := fun j => x.κ (ids.getD j 0), B0 := x.w.heap.size, Ω := fun j => x.Ω (ids.getD j 0), bg := x.bg }
      generalize hins : os.map (Obj.tr r fun _ => true) = ins at hFe
      have hgc : ∀ j ob, getO (ins.map some) j = some ob → ∃ id ob0, ids[j]? = some id ∧ ids.getD j 0 = id ∧ getO h id = some ob0 ∧ ob = ob0.tr r (fun _ => true) ∧ os[j]? = some ob0 := fun j ob hj => by
       rw [getO_map, ← hins, List.getElem?_map, Option.map_eq_some_iff] at hj
       obtain ⟨ob0, h1, rfl⟩ := hj
       have hjl : j < ids.length := by rw [← hosl]; exact (List.getElem?_eq_some_iff.1 h1).1
       obtain ⟨o2, h2, h3⟩ := hosg j _ (List.getElem?_eq_getElem hjl)
       rw [h1] at h3
       injection h3 with h3
       subst h3
       exact ⟨ids[j], ob0, List.getElem?_eq_getElem hjl, by simp [List.getD, hjl], h2, rfl, h1⟩
      have hgc2 : ∀ id ob0, id ∈ ids → getO h id = some ob0 → getO (ins.map some) (r id) = some (ob0.tr r (fun _ => true)) := fun id ob0 hid hg => by
       obtain ⟨o2, h2, h3⟩ := hosg _ _ (idx_get hid).1
       rw [hg] at h2
       injection h2 with h2
       subst h2
       rw [getO_map, ← hins, List.getElem?_map, hrr, h3]
       rfl
      have hφc : ∀ id ∈ ids, xc.φ (r id) = x.φ id ∧ xc.κ (r id) = x.κ id := fun id hid => by
       have := (idx_get hid).2
       simp only [xc, hrr, this, and_self]
      have hTrId : ∀ id ∈ ids, TrId x h xc (ins.map some) r id := fun id hid => by
       refine ⟨fun cs' hc => ?_, fun e s o f l hc => ?_, fun d hc => ?_⟩
       rotate_left 2
       ·obtain ⟨i2, ob0, h1, h2, h3, h4, _⟩ := hgc _ _ hc
        have : i2 = id := by
         have := (idx_get hid).1
         rw [← hrr, h1] at this
         injection this
        subst this
        cases ob0 <;> simp [Obj.tr] at h4
        subst h4
        exact ⟨h3, (hφc _ hid).1⟩
       ·obtain ⟨i2, ob0, h1, h2, h3, h4, _⟩ := hgc _ _ hc
        have : i2 = id := by
         have := (idx_get hid).1
         rw [← hrr, h1] at this
         injection this
        subst this
        cases ob0 <;> simp [Obj.tr] at h4
        exact ⟨⟨_, h3⟩, (hφc _ hid).1⟩
       ·obtain ⟨i2, ob0, h1, h2, h3, h4, _⟩ := hgc _ _ hc
        have : i2 = id := by
         have := (idx_get hid).1
         rw [← hrr, h1] at this
         injection this
        subst this
        cases ob0 <;> simp [Obj.tr] at h4
        obtain ⟨rfl, rfl, _, rfl, rfl⟩ := h4
        exact ⟨_, _, h3, (hφc _ hid).1, (hφc _ hid).2⟩
      have hTrSh : TrSh x xc (fun _ => true) old := fun o k q ho hS => ⟨⟨⟨hS.1, hS.2.imp ho id⟩, .inl rfl⟩, rfl⟩
      have hbc : ∀ j d, getO (ins.map some) j = some (.big d) → ∃ id, id ∈ ids ∧ ids[j]? = some id ∧ getO h id = some (.big d) ∧ xc.Ω j = x.Ω id ∧ xc.φ j = x.φ id ∧ old = true := fun j d hj => by
       obtain ⟨id, ob0, h1, h2, h3, h4, h5⟩ := hgc j _ hj
       cases ob0 <;> simp [Obj.tr] at h4
       subst h4
       refine ⟨id, List.mem_of_getElem? h1, h1, h3, by simp only [xc, h2], by simp only [xc, h2], ?_⟩
       rw [← hold]
       simp only [Bool.or_eq_true]
       exact .inl (.inr (List.any_eq_true.2 ⟨_, List.mem_of_getElem? h5, rfl⟩))
      have hinv : Inv G xc (ins.map some) := {
       bgo := hi.bgo
       big := fun j d hj k hO => by
        obtain ⟨id, h1, h2, h3, h4, _, _⟩ := hbc j d hj
        rw [h4] at hO
        obtain ⟨k1, k2, k3⟩ := hi.big id d h3 k hO
        refine ⟨k1, fun i o hgi hd hp => ?_, fun i d' hgi hOi => ?_⟩
        ·obtain ⟨i0, ob0, q1, q2, q3, rfl, _⟩ := hgc i o hgi
         simp only [xc, q2] at hp
         exact k2 i0 ob0 q3 (by rintro rfl; exact hd rfl) hp
        ·obtain ⟨i0, q1, q2, q3, q4, _, _⟩ := hbc i d' hgi
         rw [q4] at hOi
         have := k3 i0 d' q3 hOi
         subst this
         have e1 := nodup_idx hnd h2
         have e2 := nodup_idx hnd q2
         omega
       obj := fun j ob hj => by
        obtain ⟨id, ob0, h1, h2, h3, rfl, h5⟩ := hgc j ob hj
        have hid : id ∈ ids := List.mem_of_getElem? h1
        have hrj : r id = j := by rw [hrr]; exact nodup_idx hnd h1
        rw [← hrj]
        refine (hi.obj id ob0 h3).tr hTrSh (fun ho => ?_) (fun q hq => hTrId q (hrefs id ob0 hid h3 q hq)) rfl (hφc id hid).1 (hφc id hid).2 (fun e s o0 f l _ hf => by simp at hf) fun d _ => ⟨rfl, by simp only [xc, hrr, (idx_get hid).2], fun _ _ => rfl, fun _ _ _ h => h.1⟩
        rw [← hold]
        simp only [Bool.or_eq_true]
        exact .inl (.inr (List.any_eq_true.2 ⟨ob0, List.mem_of_getElem? h5, ho⟩))
       inj := fun i j oi oj gi gj di dj hpp => by
        obtain ⟨id1, o1, h1, h2, h3, rfl, _⟩ := hgc i oi gi
        obtain ⟨id2, o2, k1, k2, k3, rfl, _⟩ := hgc j oj gj
        simp only [xc, h2, k2] at hpp
        have := hi.inj id1 id2 o1 o2 h3 k3 (by rintro rfl; exact di rfl) (by rintro rfl; exact dj rfl) hpp
        subst this
        have e1 := nodup_idx hnd h1
        have e2 := nodup_idx hnd k1
        omega
       own := fun j ob hj hm q hS => by
        obtain ⟨id, ob0, h1, h2, h3, rfl, _⟩ := hgc j ob hj
        simp only [xc, h2] at hS
        refine hi.own id ob0 h3 ?_ q hS.1
        cases ob0 <;> exact hm
       sh := fun k q hS => hi.sh k q hS.1
       live := fun j ob hj q hq => by
        obtain ⟨id, ob0, h1, h2, h3, rfl, _⟩ := hgc j ob hj
        rw [Obj.refs_tr, List.mem_map] at hq
        obtain ⟨q0, hq0, rfl⟩ := hq
        have hid := hrefs id ob0 (List.mem_of_getElem? h1) h3 q0 hq0
        obtain ⟨ob1, hob1⟩ := Option.isSome_iff_exists.1 (hlive q0 hid)
        rw [hgc2 q0 ob1 hid hob1]
        rfl
       glob := fun g j c hg => by
        obtain ⟨h1, v, h2, h3⟩ := hi.glob g j c hg
        have ho : old = true := by
         cases hgg : G.gf with
         | true => rw [hgf hgg g] at hg; simp at hg
         | false => rw [← hold]; simp [hgg]
        exact ⟨⟨h1, .inl ho⟩, v, h2, h3.mono fun k q hS => ⟨⟨hS, .inl ho⟩, rfl⟩⟩ }
      have hrefsA : ∀ (i : Nat) (b : AV), args[i]? = some b → ∀ id ∈ b.refs, id ∈ ids := fun i b hb' id hid => hroots id (mem_refsL hb' hid)
      have hcontract := @hcall xc _ _ _ _ hFe rfl rfl hinv (by simpa [trL_map] using hal) (fun i b u h1 h2 => by
       rw [trL_map, List.getElem?_map, Option.map_eq_some_iff] at h1
       obtain ⟨b0, h3, rfl⟩ := h1
       refine (har i b0 u h3 h2).tr hTrSh (fun ho => ?_) fun id hid => hTrId id (hrefsA i b0 h3 id hid)
       rw [← hold]
       simp only [Bool.or_eq_true]
       exact .inl (.inl (isOldL_mem h3 ho))) (fun id hid => by
       rw [refsL_tr, List.mem_map] at hid
       obtain ⟨q0, hq0, rfl⟩ := hid
       have hid := hroots q0 hq0
       obtain ⟨ob1, hob1⟩ := Option.isSome_iff_exists.1 (hlive q0 hid)
       rw [hgc2 q0 ob1 hid hob1]
       rfl)
      intro K Q hK
      refine hcontract fun us x1 post => ?_
      have hst := post.step
      let x2 : Cx := { w := x1.w, S := fun k q => x.S k q ∨ x1.S k q, φ := fun s => if s ∈ all then x1.φ (all.idxOf s) else x.φ s, κ := fun s => if s ∈ all then x1.κ (all.idxOf s) else x.κ s, B0 := x.B0, Ω := fun s => if s ∈ all then x1.Ω (all.idxOf s) else x.Ω s, bg := x.bg }
      have hx1B : x1.B0 = x.w.heap.size := hst.ext.b0
      have hyoung : old = false → ∀ k q, x1.S k q → x.B0 ≤ k := fun ho k q hS => by
       rcases hst.sgrow k q hS with h1 | ⟨j, ob, hj, hrow, _, hp⟩ | h1 | ⟨j, d, hj, _⟩
       rotate_left 3
       ·obtain ⟨_, _, _, _, _, _, h7⟩ := hbc j d hj
        rw [ho] at h7; cases h7
       ·exact h1.2.resolve_left (by simp [ho])
       ·obtain ⟨id, ob0, h2, h3, h4, rfl, h5⟩ := hgc j ob hj
        simp only [xc, h3] at hp
        rw [← hp]
        have := hi.obj id ob0 h4
        cases ob0 <;> simp only [Obj.tr, Obj.isRow] at hrow
        rename_i oo _ _ _
        obtain ⟨_, _, _, _, _, _, _, _, _, _, h10⟩ := this
        refine h10 ?_
        cases hoo : oo with
        | false => rfl
        | true =>
         have : old = true := by
          rw [← hold]
          simp only [Bool.or_eq_true]
          exact .inl (.inr (List.any_eq_true.2 ⟨_, List.mem_of_getElem? h5, by simp [Obj.isOld, hoo]⟩))
         rw [ho] at this
         simp at this
       ·exact Nat.le_trans hB h1
      have hbj : ∀ j, j < all.length → b j ∈ all ∧ all.idxOf (b j) = j := fun j hj => by
       have h1 : all[j]? = some (b j) := by rw [hbb]; simp [List.getD, hj]
       exact ⟨List.mem_of_getElem? h1, nodup_idx hnda h1⟩
      have hTr1 : ∀ j, (getO (os'.map some) j).isSome → TrId x1 (os'.map some) x2 h'' b j := fun j hj => by
       have hjl : j < all.length := by
        have := getO_lt hj
        simpa [hal2] using this
       obtain ⟨h1, h2⟩ := hbj j hjl
       have hφ : x2.φ (b j) = x1.φ j ∧ x2.κ (b j) = x1.κ j := by simp only [x2, if_pos h1, h2, and_self]
       refine ⟨fun cs' hc => ?_, fun e s o f l hc => ?_, fun d hc => ?_⟩
       rotate_left 2
       ·rw [hget2, if_pos h1, h2, Option.map_eq_some_iff] at hc
        obtain ⟨ob, h3, h4⟩ := hc
        cases ob <;> simp [Obj.tr] at h4
        subst h4
        exact ⟨by rw [getO_map]; exact h3, hφ.1⟩
       ·rw [hget2, if_pos h1, h2, Option.map_eq_some_iff] at hc
        obtain ⟨ob, h3, h4⟩ := hc
        cases ob <;> simp [Obj.tr] at h4
        exact ⟨⟨_, by rw [getO_map]; exact h3⟩, hφ.1⟩
       ·rw [hget2, if_pos h1, h2, Option.map_eq_some_iff] at hc
        obtain ⟨ob, h3, h4⟩ := hc
        cases ob <;> simp [Obj.tr] at h4
        obtain ⟨rfl, rfl, _, rfl, rfl⟩ := h4
        exact ⟨_, _, by rw [getO_map]; exact h3, hφ.1, hφ.2⟩
      have hSh1 : TrSh x1 x2 (fun o => o) true := fun o k q _ hS => by
       refine ⟨⟨.inr hS.1, ?_⟩, rfl⟩
       refine hS.2.imp (fun h => h) fun h => ?_
       rw [hx1B] at h
       exact Nat.le_trans hB h
      have hext : Ext x x2 := ⟨rfl, rfl, fun k q hS => ⟨.inl hS, by
       have hk := hi.sh k q hS
       by_cases hbO : ∃ j d, getO (ins.map some) j = some (.big d) ∧ xc.Ω j k
       ·obtain ⟨j, d, hj, _⟩ := hbO
        obtain ⟨_, _, _, _, _, _, h7⟩ := hbc j d hj
        exact (hst.ext.cells k q ⟨hS, .inl h7⟩).2
       ·have := hst.frame k hk (fun j ob hj hm hp => by
         obtain ⟨id, ob0, h1, h2, h3, rfl, _⟩ := hgc j ob hj
         simp only [xc, h2] at hp
         refine hi.own id ob0 h3 (by cases ob0 <;> exact hm) q (hp ▸ hS)) fun j d hj hO => hbO ⟨j, d, hj, hO⟩
        simp only [World.cell?]
        rw [show x2.w.heap[k]? = x.w.heap[k]? from this]⟩⟩
      have hmutc : ∀ j ob, getO (ins.map some) j = some ob → ob.mut → ∃ id ob0, id ∈ ids ∧ getO h id = some ob0 ∧ ob0.mut ∧ xc.φ j = x.φ id := fun j ob hj hm => by
       obtain ⟨id, ob0, h1, h2, h3, rfl, _⟩ := hgc j ob hj
       exact ⟨id, ob0, List.mem_of_getElem? h1, h3, by cases ob0 <;> exact hm, by simp only [xc, h2]⟩
      have hrowc : ∀ j ob, getO (ins.map some) j = some ob → ob.isRow → ∃ id ob0, id ∈ ids ∧ getO h id = some ob0 ∧ ob0.isRow ∧ (ob.mut → ob0.mut) ∧ xc.φ j = x.φ id := fun j ob hj hm => by
       obtain ⟨id, ob0, h1, h2, h3, rfl, _⟩ := hgc j ob hj
       exact ⟨id, ob0, List.mem_of_getElem? h1, h3, by cases ob0 <;> exact hm, fun h => by cases ob0 <;> exact h, by simp only [xc, h2]⟩
      have hφ2 : ∀ s, s ∈ all → x2.φ s = x1.φ (all.idxOf s) ∧ x2.κ s = x1.κ (all.idxOf s) := fun s hs => by simp only [x2, if_pos hs, and_self]
      have hφ3 : ∀ s, s ∉ all → x2.φ s = x.φ s ∧ x2.κ s = x.κ s := fun s hs => by simp only [x2, if_neg hs, and_self]
      have hΩ2 : ∀ s, s ∈ all → x2.Ω s = x1.Ω (all.idxOf s) := fun s hs => by simp only [x2, if_pos hs]
      have hΩ3 : ∀ s, s ∉ all → x2.Ω s = x.Ω s := fun s hs => by simp only [x2, if_neg hs]
      have hbig2 : ∀ {s : Nat} {d : Big}, s ∈ all → getO h'' s = some (.big d) → getO (os'.map some) (all.idxOf s) = some (.big d) := fun {s d} c hg => by
       rw [hget2, if_pos c, Option.map_eq_some_iff] at hg
       obtain ⟨ob1, h1, h2⟩ := hg
       cases ob1 <;> simp [Obj.tr] at h2
       subst h2
       rw [getO_map]; exact h1
      have hbf : ∀ {j : Nat} {d : Big} {k : Nat}, getO (os'.map some) j = some (.big d) → x1.Ω j k → (∃ id0 d0, id0 ∈ ids ∧ getO h id0 = some (.big d0) ∧ x.Ω id0 k ∧ old = true) ∨ x.w.heap.size ≤ k ∨ ∃ id0 ob0, id0 ∈ ids ∧ getO h id0 = some ob0 ∧ ob0.isRow ∧ ob0.mut ∧ x.φ id0 = k := fun {j d k} hj hO => by
       rcases hst.bfresh j d k hj hO with ⟨i0, d0, g0, h0⟩ | h0 | ⟨i0, o0, g0, r0, m0, e0⟩
       ·obtain ⟨id0, q1, _, q3, q4, _, q7⟩ := hbc i0 d0 g0
        exact .inl ⟨id0, d0, q1, q3, q4 ▸ h0, q7⟩
       ·exact .inr (.inl h0)
       ·obtain ⟨id0, ob0, q1, q2, q3, q4, q5⟩ := hrowc i0 o0 g0 r0
        exact .inr (.inr ⟨id0, ob0, q1, q2, q3, q4 m0, q5 ▸ e0⟩)
      have hnall : ∀ {i : Nat}, i ∉ all → i ∉ ids := fun {i} h1 h2 => h1 (hmem i h2)
      have hStep : Step (fun _ => True) x h x2 h'' := {
       ext := hext
       size := hst.size
       evo := fun id _ hsm => by
        by_cases c : id ∈ all
        ·have hid : id ∈ ids := by
          rw [← hall, List.mem_append] at c
          refine c.resolve_right fun hout => ?_
          rw [hnone id hout] at hsm
          simp at hsm
         obtain ⟨ob0, hob0⟩ := Option.isSome_iff_exists.1 hsm
         have hgr := hgc2 id ob0 hid hob0
         obtain ⟨ev, sm⟩ := hst.evo (r id) trivial (by rw [hgr]; rfl)
         have hidx : all.idxOf id = r id := by rw [hidxa id hid, hrr]
         have hg2 : getO h'' id = (getO (os'.map some) (r id)).map (Obj.tr b (fun o => o)) := by rw [hget2, if_pos c, hidx, getO_map]
         refine ⟨⟨fun cs' hc => ?_, fun e s o f l' hc => ?_, fun d hc => ?_⟩, ?_⟩
         rotate_left 2
         ·rw [hg2, Option.map_eq_some_iff] at hc
          obtain ⟨ob, h3, h4⟩ := hc
          cases ob <;> simp [Obj.tr] at h4
          obtain ⟨⟨d0, h5⟩, h6⟩ := ev.big _ h3
          rw [hgr] at h5
          injection h5 with h5
          cases ob0 <;> simp [Obj.tr] at h5
          exact ⟨⟨_, hob0⟩, by rw [(hφ2 id c).1, hidx, h6, (hφc id hid).1]⟩
         rotate_left
         ·rw [hg2, Option.map_eq_some_iff] at hc
          obtain ⟨ob, h3, h4⟩ := hc
          cases ob <;> simp [Obj.tr] at h4
          obtain ⟨⟨cs, h5⟩, h6⟩ := ev.var _ h3
          rw [hgr] at h5
          injection h5 with h5
          cases ob0 <;> simp [Obj.tr] at h5
          exact ⟨⟨_, hob0⟩, by rw [(hφ2 id c).1, hidx, h6, (hφc id hid).1]⟩
         ·rw [hg2, Option.map_eq_some_iff] at hc
          obtain ⟨ob, h3, h4⟩ := hc
          cases ob <;> simp [Obj.tr] at h4
          obtain ⟨rfl, rfl, _, rfl, rfl⟩ := h4
          obtain ⟨o1, f1, l1, h5, h6, h7⟩ := ev.row _ _ _ _ _ h3
          rw [hgr] at h5
          injection h5 with h5
          cases ob0 <;> simp [Obj.tr] at h5
          obtain ⟨rfl, rfl, _, rfl, rfl⟩ := h5
          exact ⟨_, _, _, hob0, h6, fun hh => by rw [(hφ2 id c).1, (hφ2 id c).2, hidx, (h7 hh).1, (h7 hh).2]; exact hφc id hid⟩
         ·rw [hg2]
          obtain ⟨ob, hob⟩ := Option.isSome_iff_exists.1 sm
          rw [hob]; rfl
        ·exact ⟨.same (by rw [hget2, if_neg c]) (hφ3 id c).1 (hφ3 id c).2, by rw [hget2, if_neg c]; exact hsm⟩
       frame := fun k hk hm hbg => hst.frame k hk (fun j ob hj hmut hp => by
        obtain ⟨id, ob0, _, h3, h4, h5⟩ := hmutc j ob hj hmut
        exact hm id ob0 h3 h4 (h5 ▸ hp)) fun j d hj hO => by
        obtain ⟨id, _, _, h3, h4, _, _⟩ := hbc j d hj
        exact hbg id d h3 (h4 ▸ hO)
       sgrow := fun k q hS => by
        rcases hS with hS | hS
        ·exact .inl hS
        ·rcases hst.sgrow k q hS with h1 | ⟨j, ob, hj, hrow, hmut, hp⟩ | h1 | ⟨j, d, hj, hO⟩
         ·exact .inl h1.1
         ·obtain ⟨id, ob0, _, h3, h4, h5, h6⟩ := hrowc j ob hj hrow
          exact .inr (.inl ⟨id, ob0, h3, h4, h5 hmut, h6 ▸ hp⟩)
         ·exact .inr (.inr (.inl h1))
         ·obtain ⟨id, _, _, h3, h4, _, _⟩ := hbc j d hj
          exact .inr (.inr (.inr ⟨id, d, h3, h4 ▸ hO⟩))
       bfresh := fun id d k hg hO => by
        by_cases c : id ∈ all
        ·rw [hΩ2 id c] at hO
         rcases hbf (hbig2 c hg) hO with ⟨id0, d0, _, q3, q4, _⟩ | h0 | ⟨i0, o0, _, q2, q3, q4, q5⟩
         ·exact .inl ⟨id0, d0, q3, q4⟩
         ·exact .inr (.inl h0)
         ·exact .inr (.inr ⟨i0, o0, q2, q3, q4, q5⟩)
        ·rw [hget2, if_neg c] at hg
         rw [hΩ3 id c] at hO
         exact .inl ⟨id, d, hg, hO⟩
       fresh := fun id ob hg hmut => by
        by_cases c : id ∈ all
        ·rw [hget2, if_pos c, Option.map_eq_some_iff] at hg
         obtain ⟨ob1, h1, rfl⟩ := hg
         rw [(hφ2 id c).1]
         rcases hst.fresh _ ob1 (by rw [getO_map]; exact h1) (by cases ob1 <;> exact hmut) with ⟨j, ob2, hj, hm2, hp⟩ | h2
         ·obtain ⟨id0, ob0, _, h3, h4, h5⟩ := hmutc j ob2 hj hm2
          exact .inl ⟨id0, ob0, h3, h4, hp.trans h5⟩
         ·exact .inr h2
        ·rw [hget2, if_neg c] at hg
         exact .inl ⟨id, ob, hg, hmut, (hφ3 id c).1⟩
       frow := fun id ob hg hrow => by
        by_cases c : id ∈ all
        ·rw [hget2, if_pos c, Option.map_eq_some_iff] at hg
         obtain ⟨ob1, h1, rfl⟩ := hg
         rw [(hφ2 id c).1]
         rcases hst.frow _ ob1 (by rw [getO_map]; exact h1) (by cases ob1 <;> exact hrow) with ⟨j, ob2, hj, hm2, hm3, hp⟩ | h2
         ·obtain ⟨id0, ob0, _, h3, h4, h5, h6⟩ := hrowc j ob2 hj hm2
          exact .inl ⟨id0, ob0, h3, h4, fun hm => h5 (hm3 (by cases ob1 <;> exact hm)), hp.trans h6⟩
         ·exact .inr h2
        ·rw [hget2, if_neg c] at hg
         exact .inl ⟨id, ob, hg, hrow, fun h => h, (hφ3 id c).1⟩
       os := hst.os
       tape := hst.tape
       output := hst.output
       nf := hst.nf }
      have hblk : ∀ j ob, getO (os'.map some) j = some ob → ob ≠ .dead → (∃ id0 ob0, id0 ∈ ids ∧ getO h id0 = some ob0 ∧ ob0 ≠ .dead ∧ x1.φ j = x.φ id0) ∨ x.w.heap.size ≤ x1.φ j := fun j ob hj hd => by
       cases ob with
       | dead => exact absurd rfl hd
       | big d =>
        rcases hst.fresh j _ hj trivial with ⟨j2, ob2, hj2, hm2, hp⟩ | h2
        ·obtain ⟨id0, ob0, h2, h3, h4, h5⟩ := hmutc j2 ob2 hj2 hm2
         exact .inl ⟨id0, ob0, h2, h3, Obj.mut_ne h4, hp.trans h5⟩
        ·exact .inr h2
       | var cs =>
        rcases hst.fresh j _ hj trivial with ⟨j2, ob2, hj2, hm2, hp⟩ | h2
        ·obtain ⟨id0, ob0, h2, h3, h4, h5⟩ := hmutc j2 ob2 hj2 hm2
         exact .inl ⟨id0, ob0, h2, h3, Obj.mut_ne h4, hp.trans h5⟩
        ·exact .inr h2
       | row e s o f l =>
        rcases hst.frow j _ hj trivial with ⟨j2, ob2, hj2, hm2, _, hp⟩ | h2
        ·obtain ⟨id0, ob0, h2, h3, h4, _, h5⟩ := hrowc j2 ob2 hj2 hm2
         exact .inl ⟨id0, ob0, h2, h3, by rintro rfl; exact h4, hp.trans h5⟩
        ·exact .inr h2
      have hInv : Inv G x2 h'' := {
       obj := fun id ob hg => by
        by_cases c : id ∈ all
        ·rw [hget2, if_pos c, Option.map_eq_some_iff] at hg
         obtain ⟨ob1, h1, rfl⟩ := hg
         have hg1 : getO (os'.map some) (all.idxOf id) = some ob1 := by rw [getO_map]; exact h1
         have hbi : b (all.idxOf id) = id := by rw [hbb]; exact (idx_get c).2
         have := (post.inv.obj _ ob1 hg1).tr (g := (fun o => o)) (ob := true) hSh1 (fun _ => rfl) (fun q hq => hTr1 q (post.inv.live _ ob1 hg1 q hq)) rfl (by rw [hbi]; exact (hφ2 id c).1) (by rw [hbi]; exact (hφ2 id c).2) (fun e s o0 f l hrow hf => ?_) (fun d hd => ⟨hst.ext.bg.symm, by rw [hbi]; exact hΩ2 id c, fun _ _ => rfl, fun k q hO hS => ?_⟩)
         rotate_left 2
         ·subst hd
          rcases hS with hS | hS
          ·rcases hbf hg1 hO with ⟨_, _, _, _, _, q7⟩ | h0 | ⟨i0, o0, _, q2, _, q4, q5⟩
           ·exact (hst.ext.cells k q ⟨hS, .inl q7⟩).1
           ·have := hi.sh k q hS
            omega
           ·exact absurd (q5 ▸ hS) (hi.own i0 o0 q2 q4 q)
          ·exact hS
         ·rw [hbi] at this
          exact this
         ·subst hrow
          show x.B0 ≤ _
          cases ho : old with
          | true =>
           have hf' : o0 = false := hf
           obtain ⟨_, _, _, _, _, _, _, _, _, _, h10⟩ := post.inv.obj _ _ hg1
           have := h10 hf'
           omega
          | false =>
           rcases hst.frow _ _ hg1 trivial with ⟨j2, ob2, hj2, hm2, _, hp⟩ | h2
           ·obtain ⟨id0, ob0, k1, k2, k3, rfl, k5⟩ := hgc j2 ob2 hj2
            rw [hp]
            simp only [xc, k2]
            have := hi.obj id0 ob0 k3
            cases ob0 <;> simp only [Obj.tr, Obj.isRow] at hm2
            rename_i oo _ _ _
            obtain ⟨_, _, _, _, _, _, _, _, _, _, h10⟩ := this
            refine h10 ?_
            cases hoo : oo with
            | false => rfl
            | true =>
             have : old = true := by
              rw [← hold]
              simp only [Bool.or_eq_true]
              exact .inl (.inr (List.any_eq_true.2 ⟨_, List.mem_of_getElem? k5, by simp [Obj.isOld, hoo]⟩))
             rw [ho] at this
             simp at this
           ·exact Nat.le_trans hB h2
        ·rw [hget2, if_neg c] at hg
         by_cases hd : ob = .dead
         ·subst hd; trivial
         ·refine (hi.obj id ob hg).mono hext ?_ (hφ3 id c).1 (hφ3 id c).2 (fun j hj => (hStep.evo j trivial (hi.live id ob hg j hj)).1) fun d hd' => ?_
          ·refine hst.frame _ (block_lt hi hg hd) (fun j ob2 hj hm hp => ?_) fun j d hj hO => ?_
           ·obtain ⟨id0, ob0, h2, h3, h4, h5⟩ := hmutc j ob2 hj hm
            rw [h5] at hp
            have := hi.inj id0 id ob0 ob h3 hg (Obj.mut_ne h4) hd hp
            subst this
            exact c (hmem _ h2)
           ·obtain ⟨id0, _, _, h3, h4, _, _⟩ := hbc j d hj
            exact (hi.big id0 d h3 _ (h4 ▸ hO)).2.1 id ob hg hd rfl
          ·subst hd'
           refine ⟨hΩ3 id c, fun k hO => ?_, fun k q hO hS => ?_⟩
           ·obtain ⟨k1, k2, k3⟩ := hi.big id d hg k hO
            refine hst.frame k k1 (fun j ob2 hj hm hp => ?_) fun j d hj hOj => ?_
            ·obtain ⟨id0, ob0, h2, h3, h4, h5⟩ := hmutc j ob2 hj hm
             exact k2 id0 ob0 h3 (Obj.mut_ne h4) (h5 ▸ hp)
            ·obtain ⟨id0, q1, _, h3, h4, _, _⟩ := hbc j d hj
             have := k3 id0 d h3 (h4 ▸ hOj)
             subst this
             exact hnall c q1
           ·obtain ⟨k1, k2, k3⟩ := hi.big id d hg k hO
            rcases hS with hS | hS
            ·exact hS
            ·rcases hst.sgrow k q hS with h1 | ⟨j, ob2, hj, hrow, hm2, hp⟩ | h1 | ⟨j, d', hj, hOj⟩
             ·exact h1.1
             ·obtain ⟨id0, ob0, _, q2, q3, _, q5⟩ := hrowc j ob2 hj hrow
              exact absurd (q5 ▸ hp) (k2 id0 ob0 q2 (by rintro rfl; exact q3))
             ·have h1' : x.w.heap.size ≤ k := h1
              omega
             ·obtain ⟨id0, q1, _, h3, h4, _, _⟩ := hbc j d' hj
              have := k3 id0 d' h3 (h4 ▸ hOj)
              subst this
              exact absurd q1 (hnall c)
       inj := fun i j oi oj gi gj di dj hpp => by
        by_cases ci : i ∈ all
        ·rw [hget2, if_pos ci, Option.map_eq_some_iff] at gi
         obtain ⟨o1, h1, rfl⟩ := gi
         have hd1 : o1 ≠ .dead := by rintro rfl; exact di rfl
         rw [(hφ2 i ci).1] at hpp
         by_cases cj : j ∈ all
         ·rw [hget2, if_pos cj, Option.map_eq_some_iff] at gj
          obtain ⟨o2, h2, rfl⟩ := gj
          have hd2 : o2 ≠ .dead := by rintro rfl; exact dj rfl
          rw [(hφ2 j cj).1] at hpp
          have := post.inv.inj _ _ o1 o2 (by rw [getO_map]; exact h1) (by rw [getO_map]; exact h2) hd1 hd2 hpp
          have e1 := (idx_get ci).1
          have e2 := (idx_get cj).1
          rw [this, e2] at e1
          injection e1 with e1
          exact e1.symm
         ·rw [hget2, if_neg cj] at gj
          rw [(hφ3 j cj).1] at hpp
          rcases hblk _ o1 (by rw [getO_map]; exact h1) hd1 with ⟨id0, ob0, k1, k2, k3, k4⟩ | k1
          ·rw [k4] at hpp
           have := hi.inj id0 j ob0 oj k2 gj k3 dj hpp
           subst this
           exact absurd (hmem _ k1) cj
          ·have := block_lt hi gj dj
           omega
        ·rw [hget2, if_neg ci] at gi
         rw [(hφ3 i ci).1] at hpp
         by_cases cj : j ∈ all
         ·rw [hget2, if_pos cj, Option.map_eq_some_iff] at gj
          obtain ⟨o2, h2, rfl⟩ := gj
          have hd2 : o2 ≠ .dead := by rintro rfl; exact dj rfl
          rw [(hφ2 j cj).1] at hpp
          rcases hblk _ o2 (by rw [getO_map]; exact h2) hd2 with ⟨id0, ob0, k1, k2, k3, k4⟩ | k1
          ·rw [k4] at hpp
           have := hi.inj i id0 oi ob0 gi k2 di k3 hpp
           subst this
           exact absurd (hmem _ k1) ci
          ·have := block_lt hi gi di
           omega
         ·rw [hget2, if_neg cj] at gj
          rw [(hφ3 j cj).1] at hpp
          exact hi.inj i j oi oj gi gj di dj hpp
       own := fun id ob hg hmut q hS => by
        by_cases c : id ∈ all
        ·rw [hget2, if_pos c, Option.map_eq_some_iff] at hg
         obtain ⟨ob1, h1, rfl⟩ := hg
         have hm1 : ob1.mut := by cases ob1 <;> exact hmut
         have hg1 : getO (os'.map some) (all.idxOf id) = some ob1 := by rw [getO_map]; exact h1
         rw [(hφ2 id c).1] at hS
         rcases hS with hS | hS
         ·rcases hst.fresh _ ob1 hg1 hm1 with ⟨j, ob2, hj, hm2, hp⟩ | h2
          ·obtain ⟨id0, ob0, _, h3, h4, h5⟩ := hmutc j ob2 hj hm2
           rw [hp, h5] at hS
           exact hi.own id0 ob0 h3 h4 q hS
          ·have := hi.sh _ _ hS
           exact absurd (Nat.lt_of_lt_of_le this h2) (Nat.lt_irrefl _)
         ·exact post.inv.own _ ob1 hg1 hm1 q hS
        ·rw [hget2, if_neg c] at hg
         rw [(hφ3 id c).1] at hS
         rcases hS with hS | hS
         ·exact hi.own id ob hg hmut q hS
         ·rcases hst.sgrow _ q hS with h1 | ⟨j, ob2, hj, hrow, hm2, hp⟩ | h1 | ⟨j, d, hj, hO⟩
          rotate_left 3
          ·obtain ⟨id0, _, _, h3, h4, _, _⟩ := hbc j d hj
           exact (hi.big id0 d h3 _ (h4 ▸ hO)).2.1 id ob hg (Obj.mut_ne hmut) rfl
          ·exact hi.own id ob hg hmut q h1.1
          ·obtain ⟨id0, ob0, k1, k2, k3, k4, k5⟩ := hrowc j ob2 hj hrow
           rw [k5] at hp
           have := hi.inj id0 id ob0 ob k2 hg (by rintro rfl; exact k3) (Obj.mut_ne hmut) hp
           subst this
           exact c (hmem _ k1)
          ·have := block_lt hi hg (Obj.mut_ne hmut)
           have h1' : x.w.heap.size ≤ x.φ id := h1
           omega
       bgo := hi.bgo
       big := fun id d hg k hO => by
        by_cases c : id ∈ all
        ·have hg1 := hbig2 c hg
         rw [hΩ2 id c] at hO
         obtain ⟨k1, k2, k3⟩ := post.inv.big _ d hg1 k hO
         refine ⟨k1, fun i o hgi hd hp => ?_, fun i d' hgi hOi => ?_⟩
         ·by_cases ci : i ∈ all
          ·rw [hget2, if_pos ci, Option.map_eq_some_iff] at hgi
           obtain ⟨o1, h1, rfl⟩ := hgi
           rw [(hφ2 i ci).1] at hp
           exact k2 _ o1 (by rw [getO_map]; exact h1) (by rintro rfl; exact hd rfl) hp
          ·rw [hget2, if_neg ci] at hgi
           rw [(hφ3 i ci).1] at hp
           rcases hbf hg1 hO with ⟨id0, d0, q1, q2, q3, _⟩ | h0 | ⟨i0, o0, q1, q2, q3, q4, q5⟩
           ·exact (hi.big id0 d0 q2 k q3).2.1 i o hgi hd hp
           ·have := block_lt hi hgi hd
            omega
           ·have := hi.inj i i0 o o0 hgi q2 hd (Obj.mut_ne q4) (hp.trans q5.symm)
            subst this
            exact hnall ci q1
         ·by_cases ci : i ∈ all
          ·rw [hΩ2 i ci] at hOi
           have := k3 _ d' (hbig2 ci hgi) hOi
           have e1 := (idx_get ci).1
           have e2 := (idx_get c).1
           rw [this, e2] at e1
           injection e1 with e1
           exact e1.symm
          ·rw [hget2, if_neg ci] at hgi
           rw [hΩ3 i ci] at hOi
           rcases hbf hg1 hO with ⟨id0, d0, q1, q2, q3, _⟩ | h0 | ⟨i0, o0, q1, q2, q3, q4, q5⟩
           ·have := (hi.big id0 d0 q2 k q3).2.2 i d' hgi hOi
            subst this
            exact absurd q1 (hnall ci)
           ·have := (hi.big i d' hgi k hOi).1
            omega
           ·exact absurd q5 ((hi.big i d' hgi k hOi).2.1 i0 o0 q2 (Obj.mut_ne q4))
        ·rw [hget2, if_neg c] at hg
         rw [hΩ3 id c] at hO
         obtain ⟨k1, k2, k3⟩ := hi.big id d hg k hO
         refine ⟨Nat.lt_of_lt_of_le k1 hst.size, fun i o hgi hd hp => ?_, fun i d' hgi hOi => ?_⟩
         ·by_cases ci : i ∈ all
          ·rw [hget2, if_pos ci, Option.map_eq_some_iff] at hgi
           obtain ⟨o1, h1, rfl⟩ := hgi
           rw [(hφ2 i ci).1] at hp
           rcases hblk _ o1 (by rw [getO_map]; exact h1) (by rintro rfl; exact hd rfl) with ⟨id0, ob0, _, q2, q3, q4⟩ | h0
           ·exact k2 id0 ob0 q2 q3 (q4 ▸ hp)
           ·omega
          ·rw [hget2, if_neg ci] at hgi
           rw [(hφ3 i ci).1] at hp
           exact k2 i o hgi hd hp
         ·by_cases ci : i ∈ all
          ·rw [hΩ2 i ci] at hOi
           rcases hbf (hbig2 ci hgi) hOi with ⟨id0, d0, q1, q2, q3, _⟩ | h0 | ⟨i0, o0, q1, q2, q3, q4, q5⟩
           ·have := k3 id0 d0 q2 q3
            subst this
            exact absurd q1 (hnall c)
           ·omega
           ·exact absurd q5 (k2 i0 o0 q2 (Obj.mut_ne q4))
          ·rw [hget2, if_neg ci] at hgi
           rw [hΩ3 i ci] at hOi
           exact k3 i d' hgi hOi
       sh := fun k q hS => by
        rcases hS with hS | hS
        ·exact Nat.lt_of_lt_of_le (hi.sh k q hS) hst.size
        ·exact post.inv.sh k q hS
       live := fun id ob hg j hj => by
        by_cases c : id ∈ all
        ·rw [hget2, if_pos c, Option.map_eq_some_iff] at hg
         obtain ⟨ob1, h1, rfl⟩ := hg
         rw [Obj.refs_tr, List.mem_map] at hj
         obtain ⟨j0, hj0, rfl⟩ := hj
         have hsm := post.inv.live _ ob1 (by rw [getO_map]; exact h1) j0 hj0
         have hjl : j0 < all.length := by
          have := getO_lt hsm
          simpa [hal2] using this
         obtain ⟨k1, k2⟩ := hbj j0 hjl
         rw [hget2, if_pos k1, k2]
         rw [getO_map] at hsm
         obtain ⟨ob2, hob2⟩ := Option.isSome_iff_exists.1 hsm
         rw [hob2]; rfl
        ·rw [hget2, if_neg c] at hg
         exact (hStep.evo j trivial (hi.live id ob hg j hj)).2
       glob := fun g j c hg => by
        obtain ⟨h1, v, h2, h3⟩ := hi.glob g j c hg
        exact ⟨.inl h1, v, ((hext.cells _ _ h1).2).trans h2, h3.mono fun k q hS => hext.cells k q hS⟩ }
      refine hK x2 (mkRes us) hInv hStep (finish_rel (by simpa [trL_map] using post.len) fun i b' u h1 h2 => ?_) fun id hid => ?_
      ·rw [trL_map, List.getElem?_map, Option.map_eq_some_iff] at h1
       obtain ⟨b0, h3, rfl⟩ := h1
       exact (post.rel i b0 u h3 h2).tr hSh1 (fun _ => rfl) fun j hj => hTr1 j (post.live j (mem_refsL h3 hj))
      ·have hid := finish_refs hid
       rw [refsL_tr, List.mem_map] at hid
       obtain ⟨j0, hj0, rfl⟩ := hid
       have hsm := post.live j0 hj0
       have hjl : j0 < all.length := by
        have := getO_lt hsm
        simpa [hal2] using this
       obtain ⟨k1, k2⟩ := hbj j0 hjl
       rw [hget2, if_pos k1, k2]
       rw [getO_map] at hsm
       obtain ⟨ob2, hob2⟩ := Option.isSome_iff_exists.1 hsm
       rw [hob2]; rfl
     ·simp at he
    ·simp at he
   ·simp at he
  ·simp at he
 ·simp at he
end
end Go.Ev
set_option linter.unusedSimpArgs false
set_option linter.unusedVariables false
namespace Go.Ev
def tsize (P : Program) (t : TypeId) : Option Nat := (P.info? t).map (·.size)
def tbytes (P : Program) (t : TypeId) : Option Nat := (P.info? t).map (·.bytes)
def tagg (P : Program) (t : TypeId) : Option Bool := (P.underlying t).map fun d => match d with
 | .struct _ => true
 | .array _ _ => true
 | _ => false
def tzero (P : Program) (t : TypeId) : Option (List Value) := match P.info? t with
 | some i => match i.zero with
  | some z => if z.cells.toList.all Value.oneCell' then some z.cells.toList else none
  | none => none
 | none => none
def tplaces (P : Program) (t : TypeId) : Option (Nat → Option (Nat × Nat)) := match P.underlying t with
 | some (.struct fs) => if fs.toList.all fun f => (P.info? f.type).isSome then some fun i => (fs[i]?).map fun f => (f.offset, P.cellsOf f.type) else none
 | some (.array _ e) => if (P.info? e).isSome then some fun i => some (i * P.cellsOf e, P.cellsOf e) else none
 | _ => none
def tslice (P : Program) (t : TypeId) : Option TypeId := match P.underlying t with
 | some (.slice e) => some e
 | _ => none
def isStr (P : Program) (t : TypeId) : Bool := match P.underlying t with
 | some .string => true
 | _ => false
def tint (P : Program) (t : TypeId) : Option IntKind := match P.underlying t with
 | some (.int k) => some k
 | _ => none
def isIfc (P : Program) (t : TypeId) : Bool := match P.underlying t with
 | some (.interface _) => true
 | _ => false
def telem (P : Program) (e : TypeId) : Option (Nat × Nat × List Value) := match tzero P e, tsize P e, tbytes P e with
 | some zs, some sz, some b => if zs.length = sz ∧ 0 < sz then some (sz, b, zs) else none
 | _, _, _ => none
def isEqp (P : Program) (xt : TypeId) (tp : Nat) (op : BinOp) (ne : Bool) : Bool := match P.underlying xt, P.underlying tp, P.info? tp with
 | some (.interface _), some (.pointer te), some i => i.comparable && (P.info? te).isSome && (match op, ne with
  | .eql, false => true
  | .neq, true => true
  | _, _ => false)
 | _, _, _ => false
theorem isEqp_ok {P : Program} {xt : TypeId} {tp : Nat} {op : BinOp} {ne : Bool} (h : isEqp P xt tp op ne = true) : ∃ ms te i j, P.underlying xt = some (.interface ms) ∧ P.underlying tp = some (.pointer te) ∧ P.info? tp = some i ∧ i.comparable = true ∧ P.info? te = some j ∧ op = (if ne then .neq else .eql) := by
 unfold isEqp at h
 split at h
 ·rename_i ms te i h1 h2 h3
  simp only [Bool.and_eq_true] at h
  obtain ⟨⟨h4, h5⟩, h6⟩ := h
  obtain ⟨j, h7⟩ := Option.isSome_iff_exists.1 h5
  refine ⟨ms, te, i, j, h1, h2, h3, h4, h7, ?_⟩
  cases op <;> cases ne <;> simp at h6 <;> rfl
 ·simp at h
def tkOk (P : Program) (xt : TypeId) (cst : Bool) : TK → Bool
 | .plain => true
 | .bool => match P.underlying xt with
  | some .bool => true
  | _ => false
 | .iface e c => isIfc P xt && (tint P e).isSome && (match P.info? e with
  | some i => i.comparable
  | none => false) && (!c || cst)
 | .ptr => match P.underlying xt with
  | some (.pointer _) => true
  | _ => false
 | .slice => (tslice P xt).isSome
 | .arr n => match P.underlying xt with
  | some (.array m e) => n == m && (tint P e).isSome && (tsize P e == some 1) && !P.eqGuardType P.depth xt
  | _ => false
theorem tagg_ok {P : Program} {t : TypeId} {b : Bool} (h : tagg P t = some b) : TAgg P t b := by
 unfold tagg at h
 obtain ⟨d, h1, h2⟩ := Option.map_eq_some_iff.1 h
 exact ⟨d, h1, h2.symm⟩
theorem tzero_ok {P : Program} {t : TypeId} {zs : List Value} (h : tzero P t = some zs) : TZero P t zs := by
 unfold tzero at h
 split at h
 ·rename_i i hi
  split at h
  ·rename_i z hz
   split at h
   ·rename_i hall
    injection h with h
    subst h
    exact ⟨i, z, hi, hz, rfl, hall⟩
   ·simp at h
  ·simp at h
 ·simp at h
theorem tplaces_ok {P : Program} {t : TypeId} {pl : Nat → Option (Nat × Nat)} (h : tplaces P t = some pl) : Places P t pl := by
 unfold tplaces at h
 split at h
 ·rename_i fs hf
  split at h
  ·rename_i hall
   injection h with h
   exact .inl ⟨fs, hf, fun f hm => by simpa using List.all_eq_true.1 hall f hm, h.symm⟩
  ·simp at h
 ·rename_i n e he
  split at h
  ·rename_i hall
   injection h with h
   exact .inr ⟨n, e, he, hall, h.symm⟩
  ·simp at h
 ·simp at h
theorem tslice_ok {P : Program} {t e : TypeId} (h : tslice P t = some e) : P.underlying t = some (.slice e) := by
 unfold tslice at h
 split at h
 ·rename_i e' he
  injection h with h
  rw [he, h]
 ·simp at h
theorem isStr_ok {P : Program} {t : TypeId} (h : isStr P t = true) : P.underlying t = some .string := by
 unfold isStr at h
 split at h
 ·assumption
 ·simp at h
theorem tint_ok {P : Program} {t : TypeId} {k : IntKind} (h : tint P t = some k) : P.underlying t = some (.int k) := by
 unfold tint at h
 split at h
 ·rename_i e' he
  injection h with h
  rw [he, h]
 ·simp at h
theorem isIfc_ok {P : Program} {t : TypeId} (h : isIfc P t = true) : ∃ ms, P.underlying t = some (.interface ms) := by
 unfold isIfc at h
 split at h
 ·exact ⟨_, by assumption⟩
 ·simp at h
theorem telem_ok {P : Program} {e : TypeId} {sz b : Nat} {zs : List Value} (h : telem P e = some (sz, b, zs)) : TElem P e sz b zs := by
 unfold telem at h
 split at h
 ·rename_i z s b' h1 h2 h3
  split at h
  ·rename_i hc
   simp only [Option.some.injEq, Prod.mk.injEq] at h
   obtain ⟨rfl, rfl, rfl⟩ := h
   exact ⟨tzero_ok h1, h2, h3, hc.1, hc.2⟩
  ·simp at h
 ·simp at h
theorem tkOk_ok {P : Program} {xt : TypeId} {cst : Bool} {tk : TK} (h : tkOk P xt cst tk = true) : TKOk P xt cst tk := by
 cases tk with
 | plain => trivial
 | bool =>
  simp only [tkOk] at h
  split at h
  ·assumption
  ·simp at h
 | iface e c =>
  simp only [tkOk, Bool.and_eq_true, Bool.or_eq_true, Bool.not_eq_true'] at h
  obtain ⟨⟨⟨h1, h2⟩, h3⟩, h4⟩ := h
  obtain ⟨k, hk⟩ := Option.isSome_iff_exists.1 h2
  refine ⟨isIfc_ok h1, ⟨k, tint_ok hk⟩, ?_, fun hc => h4.resolve_left (by simp [hc])⟩
  split at h3
  ·exact ⟨_, by assumption, h3⟩
  ·simp at h3
 | ptr =>
  simp only [tkOk] at h
  split at h
  ·exact ⟨_, by assumption⟩
  ·simp at h
 | slice =>
  obtain ⟨e, he⟩ := Option.isSome_iff_exists.1 h
  exact ⟨e, tslice_ok he⟩
 | arr n =>
  simp only [tkOk] at h
  split at h
  ·rename_i m e he
   simp only [Bool.and_eq_true, beq_iff_eq, Bool.not_eq_true'] at h
   obtain ⟨⟨⟨h1, h2⟩, h3⟩, h4⟩ := h
   subst h1
   obtain ⟨k, hk⟩ := Option.isSome_iff_exists.1 h2
   unfold tsize at h3
   obtain ⟨i, hi, hs⟩ := Option.map_eq_some_iff.1 h3
   exact ⟨e, k, i, he, tint_ok hk, hi, hs, h4⟩
  ·simp at h
def mvOr (an : Op1) (x : O) : Op1 := match an with
 | .cn _ => .cn x
 | _ => .mv x
def tr0 (P : Program) (op : Op) (an : Op1) : Option Op1 := match op with
 | .move x => some (mvOr an (trO x))
 | .assign x => some (mvOr an (trO x))
 | .pick c x y => some (.pick (trO c) (trO x) (trO y))
 | .alloc t => match an with
  | .new s _ => (tzero P t).map fun zs => .new s zs
  | _ => none
 | .box _ x => match an with
  | .box s sz _ => some (.box s sz (trO x))
  | _ => none
 | .build t ps => match tzero P t, tplaces P t with
  | some zs, some pl => (trParts pl zs.length ps.toList).map fun qs => .build zs qs
  | _, _ => none
 | .buildSlice t n ps => match tslice P t with
  | some e => match tzero P e, tsize P e with
   | some zs, some sz => if zs.length = sz ∧ 0 < sz ∧ n * sz ≤ 16777216 then (match an with
    | .lit s _ _ _ _ _ => some (.lit s e sz n zs (trPartsE ps.toList))
    | .litd _ _ _ _ => some (.litd sz n zs (trPartsE ps.toList))
    | _ => none) else none
   | _, _ => none
  | none => none
 | .load t x => match tagg P t, tsize P t with
  | some ag, some sz => some (.load ag sz (trO x))
  | _, _ => none
 | .store t x y => (tsize P t).map fun sz => .store sz (trO x) (trO y)
 | .nilCheck x => some (.nilc (trO x))
 | .binOp op xt x y _ => match an with
  | .bin tk _ _ _ => if tkOk P xt (isConst x || isConst y) tk then some (.bin tk op (trO x) (trO y)) else none
  | .eqp ne tp _ _ => if isEqp P xt tp op ne then some (.eqp ne tp (trO x) (trO y)) else none
  | _ => none
 | .unOp op _ x => some (.un op (trO x))
 | .convert s d x => match an with
  | .conv _ _ => match P.underlying s, tint P d with
   | some _, some k => some (.conv k (trO x))
   | _, _ => none
  | .s2b _ => match tslice P d with
   | some e => if isStr P s ∧ tint P e = some .u8 then some (.s2b (trO x)) else none
   | none => none
  | .b2s _ => match tslice P s with
   | some e => if isStr P d ∧ tint P e = some .u8 then some (.b2s (trO x)) else none
   | none => none
  | .markb _ => match tslice P s with
   | some e => if s = d ∧ tint P e = some .u8 then some (.markb (trO x)) else none
   | none => none
  | _ => none
 | .makeInterface t x => match P.underlying t with
  | some _ => if isIfc P t then none else some (.mki t (trO x))
  | none => none
 | .makeFunc fn first caps => match fn, first.toList with
  | .func f, [] => some (.mkf f (caps.toList.map trO))
  | _, _ => none
 | .makeSlice t x y => match tslice P t with
  | some e => match an, telem P e with
   | .make s _ _ _ _ _ _, some (sz, b, zs) => some (.make s e sz b zs (trO x) (trO y))
   | _, _ => none
  | none => none
 | .slice t x lo hi mx => match an with
  | .slices _ _ _ => match mx with
   | none => if isStr P t then some (.slices (trO x) (lo.map trO) (hi.map trO)) else none
   | _ => none
  | .slice _ _ _ _ _ => match tslice P t with
   | some e => (tsize P e).map fun sz => .slice sz (trO x) (lo.map trO) (hi.map trO) (mx.map trO)
   | none => none
  | .trunc s _ _ => match lo, hi, mx, tslice P t with
   | none, some z, none, some e => (tsize P e).map fun _ => .trunc s (trO x) (trO z)
   | _, _, _, _ => none
  | _ => none
 | .field t x i => match P.underlying t with
  | some (.struct fs) => match fs[i]? with
   | some f => match tagg P f.type, tsize P f.type with
    | some ag, some sz => some (.fld f.offset sz ag (trO x))
    | _, _ => none
   | none => none
  | _ => none
 | .fieldAddr t x i => match P.underlying t with
  | some (.struct fs) => match fs[i]? with
   | some f => match tsize P f.type with
    | some (_ + 1) => some (.fa f.offset (trO x))
    | _ => none
   | none => none
  | _ => none
 | .indexAddr t x y => match P.underlying t with
  | some (.array n e) => (tsize P e).map fun sz => .iap n sz (trO x) (trO y)
  | some (.slice e) => (tsize P e).map fun sz => .ia sz (trO x) (trO y)
  | _ => none
 | .index t x y => match P.underlying t with
  | some (.array n e) => match tagg P e, tsize P e with
   | some ag, some sz => some (.ix n sz ag (trO x) (trO y))
   | _, _ => none
  | some .string => some (.ixs (trO x) (trO y))
  | _ => none
 | .extract x i => some (.ext i (trO x))
 | .call c => match c.callee with
  | .value g => match an with
   | .qcall f' _ outs => match g with
    | .func f => if real f' = f ∧ f' < 2000000 then some (.qcall f' (c.args.toList.map trO) outs) else none
    | _ => none
   | .call f' _ outs => match g with
    | .func f => if real f' = f ∧ f' < 2000000 then some (.call f' (c.args.toList.map trO) outs) else none
    | _ => none
   | .bcall f' _ outs => match g with
    | .func f => if real f' = f ∧ f' < 2000000 then some (.bcall f' (c.args.toList.map trO) outs) else none
    | _ => none
   | .callv _ _ outs => some (.callv (trO g) (c.args.toList.map trO) outs)
   | .cmpb _ _ => match g, c.args.toList with
    | .func f, [x, y] => if isCmp P f then some (.cmpb (trO x) (trO y)) else none
    | _, _ => none
   | _ => none
  | .builtin b => match b, c.args.toList, c.argTypes.toList with
   | .max, [x, y], _ => some (.mx (trO x) (trO y))
   | .min, [x, y], _ => some (.mn (trO x) (trO y))
   | .cap, [x], [t] => (tslice P t).map fun _ => .capn (trO x)
   | .len, [x], [t] => if isStr P t then some (.len true (trO x)) else (tslice P t).map fun _ => .len false (trO x)
   | .append, [x, y], [t, t2] => match tslice P t with
    | some e => match telem P e with
     | some (sz, b, zs) => match an with
      | .app s _ _ _ _ _ => match P.underlying t2, tint P t2 with
       | some _, none => some (.app s e sz b (trO x) (trO y))
       | _, _ => none
      | .appz s _ _ _ _ _ _ => (tint P t2).map fun _ => .appz s e sz b zs (trO x) (trO y)
      | _ => none
     | none => none
    | none => none
   | _, _, _ => none
  | _ => none
 | .lookup t x k ok => match an with
  | .call f _ outs => if ok = false ∧ f = 2000000 + 4 * t then some (.call f [trO x, trO k] outs) else none
  | _ => none
 | .mapUpdate t m k x => match an with
  | .call f _ outs => if f = 2000001 + 4 * t then some (.call f [trO m, trO k, trO x] outs) else none
  | _ => none
 | .makeMap t r => match an with
  | .call f _ outs => if r.isNone ∧ f = 2000002 + 4 * t then some (.call f [] outs) else none
  | _ => none
 | _ => none
def isTrap : Op1 → Bool
 | .trap => true
 | _ => false
def tr1 (P : Program) (op : Op) (an : Op1) : Option Op1 := if isTrap an then some .trap else tr0 P op an
def Enters (P : Program) (f : FuncId) : Prop := ∃ fn c, P.funcs[f]? = some fn ∧ (fn.name == "runtime.NumGoroutine") = false ∧ fn.body = some c
section
variable {P : Program} {G : Cf} {x : Cx} {st : St} {a : Act} {F : FnEv}
theorem callFunc_enter {f : FuncId} (h : Enters P f) (args : Array Value) (w : World) : (callFunc f args).run P w = .ok (.enter f args) w := by
 obtain ⟨fn, c, hf, hname, hb⟩ := h
 have h1 : fn.name ≠ "runtime.NumGoroutine" := by simpa using hname
 simp [callFunc, hf, h1, hb]
theorem call_run {o : Oper} {f : FuncId} {c : Call} (ho : o.op = .call c) (hc : c.callee = .value (.func f)) (h : Enters P f) (w : World) :
  (execOp a.eval o).run P w = .ok (.enter f (c.args.toList.map a.eval).toArray) w := by
 have h1 : c.args.map a.eval = (c.args.toList.map a.eval).toArray := by
  apply Array.ext'
  simp
 simp [execOp, ho, resolve, hc, Act.eval, Deferred.ofValue, invoke, callFunc_enter h]
 exact h1
theorem callv_run {o : Oper} {f : FuncId} {c : Call} {g : Operand} {caps : List Value} (ho : o.op = .call c) (hc : c.callee = .value g) (hg : a.eval g = .func (.func f) #[] caps.toArray) (h : Enters P f) (w : World) :
  (execOp a.eval o).run P w = .ok (.enter f (c.args.toList.map a.eval ++ caps).toArray) w := by
 have h1 : c.args.map a.eval ++ caps.toArray = (c.args.toList.map a.eval ++ caps).toArray := by
  apply Array.ext'
  simp
 simp [execOp, ho, resolve, hc, hg, Deferred.ofValue, invoke, callFunc_enter h]
theorem args_rel (hs : RelS G x st a) (l : List Operand) : ∀ (i : Nat) (b : AV) (v : Value), ((l.map trO).map (rho G st.t))[i]? = some b → (l.map a.eval)[i]? = some v → RelV x st.h b v := fun i b v h1 h2 => by
 simp only [List.getElem?_map, Option.map_eq_some_iff] at h1 h2
 obtain ⟨_, ⟨y, h3, rfl⟩, rfl⟩ := h1
 obtain ⟨y', h4, rfl⟩ := h2
 rw [h3] at h4
 injection h4 with h4
 subst h4
 exact hs.opd y
theorem args_live (hs : RelS G x st a) (l : List Operand) : Live st.h ((l.map trO).map (rho G st.t)) := fun id hid => by
 obtain ⟨i, b, h1, h2⟩ := mem_refsL_iff.1 hid
 simp only [List.getElem?_map, Option.map_eq_some_iff] at h1
 obtain ⟨_, ⟨y, _, rfl⟩, rfl⟩ := h1
 exact hs.opdRefs y id h2
mutual
theorem AV.ren_nil (r : Nat → Nat) : ∀ a : AV, a.refs = [] → a.ren r = a
 | .undef, _ => rfl
 | .s v, _ => rfl
 | .sl o l, _ => rfl
 | .nilsl, _ => rfl
 | .esl, _ => rfl
 | .row id n, h => by simp [AV.refs] at h
 | .ptr id o, h => by simp [AV.refs] at h
 | .mp id, h => by simp [AV.refs] at h
 | .eptr id n i k, h => by simp [AV.refs] at h
 | .daddr o l, _ => rfl
 | .agg l, h => by simp only [AV.ren]; rw [renL_nil r l (by simpa [AV.refs] using h)]
 | .tup l, h => by simp only [AV.ren]; rw [renL_nil r l (by simpa [AV.refs] using h)]
 | .ifc t v, h => by simp only [AV.ren]; rw [AV.ren_nil r v (by simpa [AV.refs] using h)]
 | .clos f l, h => by simp only [AV.ren]; rw [renL_nil r l (by simpa [AV.refs] using h)]
theorem renL_nil (r : Nat → Nat) : ∀ l : List AV, refsL l = [] → renL r l = l
 | [], _ => rfl
 | a :: l, h => by
  simp only [refsL, List.append_eq_nil_iff] at h
  simp only [renL]; rw [AV.ren_nil r a h.1, renL_nil r l h.2]
end
theorem reach_nil (h : Heap) : reach h [] = [] := rfl
theorem qcall_eq {f : Nat} {args : List O} {outs : List Nat} {h h' : Heap} {v : AV} {al : List (Nat × Obj)} (he : evP G st.t F (.qcall f args outs) = some (v, al)) (ha : alloc al h = some h') :
  evCall F h f (args.map (rho G st.t)) outs = some (v, h') := by
 simp only [evP] at he
 split at he
 ·rename_i hem
  have hem : refsL (args.map (rho G st.t)) = [] := by simpa using hem
  split at he
  ·rename_i rs os hF
   split at he
   ·rename_i hlen
    simp only [Option.some.injEq, Prod.mk.injEq] at he
    obtain ⟨e1, e2⟩ := he
    subst e1 e2
    have hfil : outs.filter (fun i => (getO h i).isNone) = outs := List.filter_eq_self.2 fun i hi => by
     obtain ⟨_, _, h3, _⟩ := alloc_spec ha
     obtain ⟨z1, _⟩ := zip_fst (l := outs) (m := os.map (Obj.ren fun i => outs.getD i 0)) (by simp [hlen])
     rw [← z1] at hi
     obtain ⟨p, hp, hpe⟩ := List.mem_map.1 hi
     have := h3 p hp
     rw [hpe] at this
     simp [getO, List.getD, this]
    simp only [evCall, hem, reach_nil, closed, List.all_nil, Bool.and_self, List.nodup_nil, decide_true, Bool.true_and, if_true, getAll, renL_nil _ _ hem, List.map_nil, hF, fitO, hfil, Nat.sub_zero, List.any_nil, Bool.or_false, hlen, List.take_length, List.length_nil, Nat.zero_add, List.nil_append, List.drop_zero, List.take_zero, putAll]
    rw [ha]
   ·simp at he
  ·simp at he
 ·simp at he
structure FnsOk (P : Program) (G : Cf) (F : FnEv) : Prop where
 ok : FnOk P G F
 pok : POk P G F
 enters : ∀ f args ins r, F f args ins = some r → f < 2000000 → Enters P (real f)
 gf : G.gf = true → ∀ g, G.G g = []
theorem evCall_some {h : Heap} {f : Nat} {args : List AV} {outs : List Nat} {r : AV × Heap} (he : evCall F h f args outs = some r) : ∃ args' ins r', F f args' ins = some r' := by
 simp only [evCall] at he
 split at he
 ·split at he
  ·split at he
   ·exact ⟨_, _, _, by assumption⟩
   ·simp at he
  ·simp at he
 ·simp at he
theorem evCall_ok' (hF : FnsOk P G F) {o : Oper} {c : Call} {f : FuncId} (ho : o.op = .call c) (hc : c.callee = .value (.func (real f))) (hlt : f < 2000000) (hs : RelS G x st a) {outs : List Nat} {v : AV} {h' : Heap}
  (he : evCall F st.h f ((c.args.toList.map trO).map (rho G st.t)) outs = some (v, h')) : OpOk P o a G x st.h v h' := by
 obtain ⟨_, _, _, hFe⟩ := evCall_some he
 exact evCall_ok (vals := c.args.toList.map a.eval) hF.gf hs.inv hs.b0 (hcall_of (call_run ho hc (hF.enters _ _ _ _ hFe hlt) x.w) hF.ok hlt) (by simp) (args_rel hs _) (args_live hs _) he
theorem p_lookup (t : Nat) (m k : Value) : pInstr (4 * t) [m, k] = Instr.lookup t m k false := by
 unfold pInstr
 rw [Nat.mul_mod_right, Nat.mul_div_cancel_left t (by decide)]
 rfl
theorem p_update (t : Nat) (m k v : Value) : pInstr (4 * t + 1) [m, k, v] = (do
  Instr.mapUpdate t m k v
  pure undef) := by
 unfold pInstr
 rw [show (4 * t + 1) % 4 = 1 by omega, show (4 * t + 1) / 4 = t by omega]
 rfl
theorem p_make (t : Nat) : pInstr (4 * t + 2) [] = Instr.makeMap t none := by
 unfold pInstr
 rw [show (4 * t + 2) % 4 = 2 by omega, show (4 * t + 2) / 4 = t by omega]
 rfl
theorem pid0 (t : Nat) : 2000000 + 4 * t - 2000000 = 4 * t ∧ 2000000 ≤ 2000000 + 4 * t := by omega
theorem pid1 (t : Nat) : 2000001 + 4 * t - 2000000 = 4 * t + 1 ∧ 2000000 ≤ 2000001 + 4 * t := by omega
theorem pid2 (t : Nat) : 2000002 + 4 * t - 2000000 = 4 * t + 2 ∧ 2000000 ≤ 2000002 + 4 * t := by omega
theorem pcall_ok' (hF : FnsOk P G F) {o : Oper} {f : FuncId} {as : List Operand} (hge : 2000000 ≤ f) (hrun : ∀ v w', (pInstr (f - 2000000) (as.map a.eval)).run P x.w = .ok v w' → (execOp a.eval o).run P x.w = .ok (.value v) w' ∨ ((execOp a.eval o).run P x.w = .ok .skip w' ∧ v = undef)) (hs : RelS G x st a) {outs : List Nat} {v : AV} {h' : Heap}
  (he : evCall F st.h f ((as.map trO).map (rho G st.t)) outs = some (v, h')) : OpOk P o a G x st.h v h' :=
 evCall_ok (vals := as.map a.eval) hF.gf hs.inv hs.b0 (pcall_of hrun hF.pok hge) (by simp) (args_rel hs _) (args_live hs _) he
theorem ifc_inv {x : Cx} {h : Heap} {t : Nat} {b : AV} {u : Value} (hr : RelV x h (.ifc t b) u) : ∃ v, u = .iface t v ∧ RelV x h b v := by
 cases hr with
 | ifc t a v hr => exact ⟨v, rfl, hr⟩
theorem ptr_inv {x : Cx} {h : Heap} {i o : Nat} {u : Value} {cs : List AV} (hr : RelV x h (.ptr i o) u) (hg : getO h i = some (.var cs)) : u = .pointer (some ⟨x.φ i, o, none⟩) := by
 cases hr with
 | ptr id off v hv hr _ => exact hr cs hg
theorem eqp_ok {o : Oper} {y z : Operand} {op : BinOp} {xt yt : TypeId} {ne : Bool} {tp : Nat} (ho : o.op = .binOp op xt y z yt) (ht : isEqp P xt tp op ne = true) (hs : RelS G x st a) {v : AV}
  (he : evR G st.t st.h (.eqp ne tp (trO y) (trO z)) = some v) : OpOk P o a G x st.h v st.h := by
 obtain ⟨ms, te, i, j, h1, h2, h3, h4, h5, h6⟩ := isEqp_ok ht
 have hy := hs.opd y
 have hz := hs.opd z
 simp only [evR] at he
 split at he
 ·rename_i e i1 o1 u j1 p1 hq1 hq2
  split at he
  ·rename_i cs hg
   split at he
   ·rename_i hc
    obtain ⟨rfl, rfl, rfl, rfl⟩ := hc
    injection he with he
    subst he
    rw [hq1] at hy
    rw [hq2] at hz
    obtain ⟨v1, e1, r1⟩ := ifc_inv hy
    obtain ⟨v2, e2, r2⟩ := ifc_inv hz
    have q1 := ptr_inv r1 hg
    have q2 := ptr_inv r2 hg
    subst q1 q2
    refine OpOk.val hs.inv (u := .bool (!ne)) ?_ (.s _) (by simp [AV.refs])
    have hrun : (binOp op xt (a.eval y) (a.eval z)).run P x.w = .ok (.bool (!ne)) x.w := by
     rw [e1, e2]
     have hq : (Op.equal xt (.iface u (.pointer (some ⟨x.φ i1, o1, none⟩))) (.iface u (.pointer (some ⟨x.φ i1, o1, none⟩)))).run P x.w = .ok true x.w := by
      simpa [Op.equal, Op.maxDepth] using run_equalIn_iface_ptr_same x.w 9998 ⟨x.φ i1, o1, none⟩ h1 h2 h3 h4 h5
     refine negIf_run (b := true) ?_ hq (by intro k n h; cases h) (by intro k n h; cases h) (by intro k m n h; cases h) (by intro s h; cases h)
     rw [h6]
     cases ne <;> rfl
    simp only [execOp, ho, Sem.run_bind, eqGuard_run (xt := xt) (op := op) (y := y) (z := z) (u := a.eval y) (v := a.eval z) (w := x.w) (P := P) (by rw [e1]; intro h; cases h) (by rw [e1]; intro c d h; cases h), Result.andThen_ok, hrun, Sem.run_pure]
   ·simp at he
  ·simp at he
 ·simp at he
theorem viewL_spec {h : Heap} : ∀ {args as : List AV}, viewL h args = some as → as.length = args.length ∧ ∀ (i : Nat) (b : AV), as[i]? = some b → ∃ a, args[i]? = some a ∧ view h a = some b
 | [], as, he => by
  simp only [viewL, Option.some.injEq] at he
  subst he
  exact ⟨rfl, fun i b h => by simp at h⟩
 | a :: l, as, he => by
  simp only [viewL] at he
  split at he
  ·rename_i a' r h1 h2
   simp only [Option.some.injEq] at he
   subst he
   obtain ⟨h3, h4⟩ := viewL_spec h2
   refine ⟨by simp [h3], fun i b hb => ?_⟩
   cases i with
   | zero =>
    simp only [List.getElem?_cons_zero, Option.some.injEq] at hb
    subst hb
    exact ⟨a, rfl, h1⟩
   | succ i => exact h4 i b (by simpa using hb)
  ·simp at he
theorem ObjRel.sc {x x' : Cx} {h h' : Heap} {id id' : Nat} {o : Obj} (hr : ObjRel x h id o) (hs : scRow o = true) (hb : x'.w.heap[x'.φ id']? = x.w.heap[x.φ id]?) (hk : x'.κ id' = x.κ id) (hB : o ≠ .dead → x'.B0 ≤ x'.φ id') : ObjRel x' h' id' o := by
 cases o with
 | dead => trivial
 | big d => simp [scRow] at hs
 | var cells => simp [scRow] at hs
 | row ety sz old fr l =>
  cases fr with
  | true => simp [scRow] at hs
  | false =>
   obtain ⟨arr, h1, h2, h3, h4, h5, h6, h7, h8, h9, h10⟩ := hr
   refine ⟨arr, by rw [hb]; exact h1, by rw [hk]; exact h2, by rw [hk]; exact h3, by rw [hk]; exact h4, h5, h6, h7, fun i k e c hi hc => ?_, (fun hf => by cases hf), fun _ => hB (by simp)⟩
   obtain ⟨v, hv, hrv⟩ := h8 i k e c hi hc
   refine ⟨v, hv, ?_⟩
   simp only [scRow, List.all_eq_true] at hs
   have hsc := hs e (List.mem_of_getElem? hi) c (List.mem_of_getElem? hc)
   cases c with
   | sc u =>
    cases hrv with
    | sc v hv2 => exact .sc _ hv2
   | sl l => simp [C.isSc] at hsc
theorem scRow_ren {o : Obj} (hs : scRow o = true) (r : Nat → Nat) : o.ren r = o ∧ o.refs = [] := by
 cases o with
 | dead => exact ⟨rfl, rfl⟩
 | big d => simp [scRow] at hs
 | var cells => simp [scRow] at hs
 | row ety sz old fr l => exact ⟨rfl, rfl⟩
theorem view_rel {xc : Cx} {h : Heap} {b0 b : AV} {u : Value} (hi : Inv G x h) (hw : xc.w = x.w) (hS : ∀ k q, x.S k q → xc.S k q)
  (hL : ∀ id e s o l, getO h id = some (.row e s o false l) → ∀ q, q < l.length * s → xc.S (x.φ id) q) (hr : RelV x h b0 u) (hv : view h b0 = some b) (hb : b.refs = []) : RelV xc [] (b.tr (fun i => i) (fun _ => true)) u := by
 have hgen : b = b0 → RelV xc [] (b.tr (fun i => i) (fun _ => true)) u := fun he => by
  subst he
  refine hr.tr (ob := true) (fun o k q _ hs => ⟨⟨hS _ _ hs.1, .inl rfl⟩, by rw [hw]⟩) (fun _ => rfl) fun id hid => ?_
  rw [hb] at hid
  simp at hid
 cases b0 <;> first
  | exact hgen (by simpa [view] using hv.symm)
  | skip
 rename_i id n
 simp only [view] at hv
 split at hv
 ·rename_i e s o f l hrow
  simp only [Option.some.injEq] at hv
  subst hv
  obtain ⟨hg, hl⟩ := rowAt_inv hrow
  cases hr with
  | row id n v hvv hle hr =>
   have hu := hr _ _ _ _ _ hg hl
   subst hu
   simp only [AV.tr]
   refine .sl true l _ ?_
   obtain ⟨arr, h1, h2, h3, h4, h5, h6, h7, h8, h9, h10⟩ := hi.obj id _ hg
   by_cases hne : l = []
   ·subst hne
    simp only [List.length_nil] at hl
    subst hl
    exact .nil _ _ (fun h => by cases h)
   ·subst hl
    have hle : l.length * s ≤ arr.size := by rw [h2]; exact Nat.mul_le_mul_right _ h3
    refine .sl l s (x.φ id) 0 (x.κ id) (fun j => arr.getD j undef) hne h6 h3 (fun j hj => ⟨⟨?_, .inl rfl⟩, ?_⟩) fun i k e2 c hi' hc => ?_
    ·rw [Nat.zero_add]
     cases f with
     | true => exact hS _ _ (h9 rfl j hj).1
     | false => exact hL _ _ _ _ _ hg j hj
    ·rw [hw, cell_of_row x.w _ _ _ _ _ h1, Nat.zero_add]
     have : j < arr.size := by omega
     simp [Array.getD, this]
    ·obtain ⟨v, hv, hr⟩ := h8 i k e2 c hi' hc
     have he : arr.getD (i * s + k) undef = v := by simp [Array.getD_eq_getD_getElem?, hv]
     rw [he]
     exact hr.mono fun b q hs => ⟨⟨hS _ _ hs.1, .inl rfl⟩, by rw [hw]⟩
 ·simp at hv
theorem bcall_ok (hF : FnOk P G F) {o : Oper} {f : FuncId} {h h' : Heap} {args as : List AV} {vals : List Value} {outs : List Nat} {rs : List AV} {os : List Obj} (hi : Inv G x h) (hB : x.B0 ≤ x.w.heap.size)
  (hrun : (execOp a.eval o).run P x.w = .ok (.enter (real f) vals.toArray) x.w) (hal : args.length = vals.length) (har : ∀ (i : Nat) (a : AV) (v : Value), args[i]? = some a → vals[i]? = some v → RelV x h a v)
  (hv : viewL h args = some as) (hem : refsL as = []) (hFe : F f (ageL true as) [] = some (rs, os)) (hlt : f < 2000000) (hlen : os.length = outs.length) (hold : isOldL rs = false) (hsc : ∀ o ∈ os, scRow o = true)
  (hal' : alloc (outs.zip (os.map (Obj.ren (fun i => outs.getD i 0)))) h = some h') : OpOk P o a G x h (finishCall (renL (fun i => outs.getD i 0) rs)) h' := by
 obtain ⟨hvl, hvg⟩ := viewL_spec hv
 have hren : os.map (Obj.ren (fun i => outs.getD i 0)) = os := by
  conv => rhs; rw [← List.map_id os]
  exact List.map_congr_left fun o ho => (scRow_ren (hsc o ho) _).1
 rw [hren] at hal'
 obtain ⟨hnda, hnone, hget⟩ := call_heap (ids := []) (os2 := os) (outs := outs) (h := h) (h' := h') List.nodup_nil (fun id h => by simp at h) (by simpa using hlen) (by simpa [putAll] using hal')
 simp only [List.nil_append] at hnda hget
 let xc : Cx := { w := x.w, S := fun k q => x.S k q ∨ ∃ id e s o l, getO h id = some (.row e s o false l) ∧ x.φ id = k ∧ q < l.length * s, φ := fun _ => 0, κ := fun _ => 0, B0 := x.w.heap.size, Ω := fun _ _ => False, bg := x.bg }
 have hno : ∀ id (o : Obj), ¬ getO (([] : List Obj).map some) id = some o := fun id o hg => by simp [getO] at hg
 have hinv : Inv G xc (([] : List Obj).map some) := {
  obj := fun id o hg => absurd hg (hno id o)
  bgo := hi.bgo
  big := fun id d hg => absurd hg (hno id _)
  inj := fun i j oi oj gi => absurd gi (hno i oi)
  own := fun id o hg => absurd hg (hno id o)
  sh := fun k q hS => by
   rcases hS with hS | ⟨id, e, s, o, l, hg, rfl, _⟩
   ·exact hi.sh k q hS
   ·exact block_lt hi hg (by simp)
  live := fun id o hg => absurd hg (hno id o)
  glob := fun g j c hg => by
   obtain ⟨h1, v, h2, h3⟩ := hi.glob g j c hg
   exact ⟨.inl h1, v, h2, h3.mono fun k q hS => ⟨.inl hS, rfl⟩⟩ }
 have hage : ageL true as = trL (fun i => i) (fun _ => true) as := ageL_eq as
 rw [hage] at hFe
 have hcontract := hF f _ _ _ _ hFe hlt xc vals rfl hinv (by rw [trL_map, List.length_map, hvl, hal]) (fun i b u h1 h2 => by
  rw [trL_map, List.getElem?_map, Option.map_eq_some_iff] at h1
  obtain ⟨b0, h3, rfl⟩ := h1
  obtain ⟨a0, h4, h5⟩ := hvg i b0 h3
  refine view_rel hi rfl (fun k q hS => .inl hS) (fun id e s o l hg q hq => .inr ⟨id, e, s, o, l, hg, rfl, hq⟩) (har i a0 u h4 h2) h5 ?_
  cases hb0 : b0.refs with
  | nil => rfl
  | cons id r =>
   have := mem_refsL h3 (id := id) (by rw [hb0]; simp)
   rw [hem] at this
   simp at this) (fun id hid => by
  rw [refsL_tr, hem] at hid
  simp at hid)
 rw [renL_tr]
 intro K Q hK
 refine Calls.enter hrun (R := fun v w' => ∃ us, v = mkRes us ∧ ∃ x' : Cx, x'.w = w' ∧ Post G xc [] rs os x' us) (hcontract.mono fun e w' ⟨us, h1, h2⟩ => ⟨mkRes us, h1, us, rfl, h2⟩) ?_
 rintro _ w' ⟨us, rfl, x1, rfl, post⟩
 have hst := post.step
 have hx1B : x1.B0 = x.w.heap.size := hst.ext.b0
 have hfr : ∀ b, b < x.w.heap.size → x1.w.heap[b]? = x.w.heap[b]? := fun b hb => hst.frame b hb (fun id o hg => absurd hg (hno id o)) fun id d hg => absurd hg (hno id _)
 have hnew : ∀ j ob, getO (os.map some) j = some ob → ob ≠ .dead → x.w.heap.size ≤ x1.φ j := fun j ob hg hd => by
  have hrow : ob.isRow := by
   rw [getO_map] at hg
   have := hsc ob (List.mem_of_getElem? hg)
   cases ob with
   | dead => exact absurd rfl hd
   | big d => simp [scRow] at this
   | var cells => simp [scRow] at this
   | row ety sz old fr l => trivial
  rcases hst.frow j ob hg hrow with ⟨i0, o0, hg0, _⟩ | h1
  ·exact absurd hg0 (hno i0 o0)
  ·exact h1
 let x3 : Cx := { w := x1.w, S := fun k q => x.S k q ∨ (x1.S k q ∧ x.w.heap.size ≤ k), φ := fun s => if s ∈ outs then x1.φ (outs.idxOf s) else x.φ s, κ := fun s => if s ∈ outs then x1.κ (outs.idxOf s) else x.κ s, B0 := x.B0, Ω := x.Ω, bg := x.bg }
 have hφ2 : ∀ s, s ∈ outs → x3.φ s = x1.φ (outs.idxOf s) ∧ x3.κ s = x1.κ (outs.idxOf s) := fun s hs => by simp only [x3, if_pos hs, and_self]
 have hφ3 : ∀ s, s ∉ outs → x3.φ s = x.φ s ∧ x3.κ s = x.κ s := fun s hs => by simp only [x3, if_neg hs, and_self]
 have hin : ∀ {s : Nat} {ob : Obj}, s ∈ outs → getO h' s = some ob → getO (os.map some) (outs.idxOf s) = some ob ∧ scRow ob = true := fun {s ob} hs hg => by
  rw [hget, if_pos hs] at hg
  exact ⟨by rw [getO_map]; exact hg, hsc ob (List.mem_of_getElem? hg)⟩
 have hout : ∀ {s : Nat}, s ∉ outs → getO h' s = getO h s := fun {s} hs => by rw [hget, if_neg hs]
 have hnb : ∀ {s : Nat} {d : Big}, getO h' s = some (.big d) → s ∉ outs ∧ getO h s = some (.big d) := fun {s d} hg => by
  by_cases c : s ∈ outs
  ·have := (hin c hg).2
   simp [scRow] at this
  ·rw [hout c] at hg; exact ⟨c, hg⟩
 have hext : Ext x x3 := ⟨rfl, rfl, fun k q hS => ⟨.inl hS, by
  simp only [World.cell?]
  rw [show x3.w.heap[k]? = x.w.heap[k]? from hfr k (hi.sh k q hS)]⟩⟩
 have hStep : Step (fun _ => True) x h x3 h' := {
  ext := hext
  size := hst.size
  evo := fun id _ hsm => by
   have c : id ∉ outs := fun hc => by
    rw [hnone id hc] at hsm
    simp at hsm
   exact ⟨.same (hout c) (hφ3 id c).1 (hφ3 id c).2, by rw [hout c]; exact hsm⟩
  frame := fun k hk _ _ => hfr k hk
  sgrow := fun k q hS => hS.elim .inl fun h1 => .inr (.inr (.inl h1.2))
  bfresh := fun id d k hg hO => .inl ⟨id, d, (hnb hg).2, hO⟩
  fresh := fun id ob hg hmut => by
   by_cases c : id ∈ outs
   ·right
    rw [(hφ2 id c).1]
    exact hnew _ ob (hin c hg).1 (Obj.mut_ne hmut)
   ·left
    rw [hout c] at hg
    exact ⟨id, ob, hg, hmut, (hφ3 id c).1⟩
  frow := fun id ob hg hrow => by
   by_cases c : id ∈ outs
   ·right
    rw [(hφ2 id c).1]
    exact hnew _ ob (hin c hg).1 (by rintro rfl; exact hrow)
   ·left
    rw [hout c] at hg
    exact ⟨id, ob, hg, hrow, fun h => h, (hφ3 id c).1⟩
  os := hst.os
  tape := hst.tape
  output := hst.output
  nf := hst.nf }
 have hInv : Inv G x3 h' := {
  obj := fun id ob hg => by
   by_cases c : id ∈ outs
   ·obtain ⟨g1, s1⟩ := hin c hg
    refine (post.inv.obj _ ob g1).sc s1 (by rw [(hφ2 id c).1]) (hφ2 id c).2 fun hd => ?_
    rw [(hφ2 id c).1]
    exact Nat.le_trans hB (hnew _ ob g1 hd)
   ·rw [hout c] at hg
    by_cases hd : ob = .dead
    ·subst hd; trivial
    ·exact (hi.obj id ob hg).mono hext (hfr _ (block_lt hi hg hd)) (hφ3 id c).1 (hφ3 id c).2 (fun j hj => (hStep.evo j trivial (hi.live id ob hg j hj)).1) fun d hd' => by
      subst hd'
      refine ⟨rfl, fun k hO => hfr k (hi.big id d hg k hO).1, fun k q hO hS => hS.elim (fun h => h) fun h => ?_⟩
      have := (hi.big id d hg k hO).1
      have := h.2
      omega
  bgo := hi.bgo
  big := fun id d hg k hO => by
   obtain ⟨k1, k2, k3⟩ := hi.big id d (hnb hg).2 k hO
   refine ⟨Nat.lt_of_lt_of_le k1 hst.size, fun i o hgi hd hp => ?_, fun i d' hgi hOi => k3 i d' (hnb hgi).2 hOi⟩
   by_cases c : i ∈ outs
   ·rw [(hφ2 i c).1] at hp
    have := hnew _ o (hin c hgi).1 hd
    omega
   ·rw [hout c] at hgi
    rw [(hφ3 i c).1] at hp
    exact k2 i o hgi hd hp
  inj := fun i j oi oj gi gj di dj hpp => by
   by_cases ci : i ∈ outs
   ·obtain ⟨g1, _⟩ := hin ci gi
    rw [(hφ2 i ci).1] at hpp
    by_cases cj : j ∈ outs
    ·obtain ⟨g2, _⟩ := hin cj gj
     rw [(hφ2 j cj).1] at hpp
     have := post.inv.inj _ _ oi oj g1 g2 di dj hpp
     have e1 := (idx_get ci).1
     have e2 := (idx_get cj).1
     rw [this, e2] at e1
     injection e1 with e1
     exact e1.symm
    ·rw [hout cj] at gj
     rw [(hφ3 j cj).1] at hpp
     have h1 := hnew _ oi g1 di
     have h2 := block_lt hi gj dj
     omega
   ·rw [hout ci] at gi
    rw [(hφ3 i ci).1] at hpp
    by_cases cj : j ∈ outs
    ·obtain ⟨g2, _⟩ := hin cj gj
     rw [(hφ2 j cj).1] at hpp
     have h1 := hnew _ oj g2 dj
     have h2 := block_lt hi gi di
     omega
    ·rw [hout cj] at gj
     rw [(hφ3 j cj).1] at hpp
     exact hi.inj i j oi oj gi gj di dj hpp
  own := fun id ob hg hmut q hS => by
   by_cases c : id ∈ outs
   ·obtain ⟨g1, _⟩ := hin c hg
    rw [(hφ2 id c).1] at hS
    rcases hS with hS | hS
    ·have h1 := hnew _ ob g1 (Obj.mut_ne hmut)
     have h2 := hi.sh _ _ hS
     omega
    ·exact post.inv.own _ ob g1 hmut q hS.1
   ·rw [hout c] at hg
    rw [(hφ3 id c).1] at hS
    rcases hS with hS | hS
    ·exact hi.own id ob hg hmut q hS
    ·have h2 := block_lt hi hg (Obj.mut_ne hmut)
     have h3 := hS.2
     omega
  sh := fun k q hS => by
   rcases hS with hS | hS
   ·exact Nat.lt_of_lt_of_le (hi.sh k q hS) hst.size
   ·exact post.inv.sh k q hS.1
  live := fun id ob hg j hj => by
   by_cases c : id ∈ outs
   ·obtain ⟨_, s1⟩ := hin c hg
    rw [(scRow_ren s1 fun i => i).2] at hj
    simp at hj
   ·rw [hout c] at hg
    exact (hStep.evo j trivial (hi.live id ob hg j hj)).2
  glob := fun g j c hg => by
   obtain ⟨h1, v, h2, h3⟩ := hi.glob g j c hg
   exact ⟨.inl h1, v, ((hext.cells _ _ h1).2).trans h2, h3.mono fun k q hS => hext.cells k q hS⟩ }
 have hTr1 : ∀ j, (getO (os.map some) j).isSome → TrId x1 (os.map some) x3 h' (fun i => outs.getD i 0) j ∧ (getO h' (outs.getD j 0)).isSome := fun j hj => by
  have hjl : j < outs.length := by
   have := getO_lt hj
   simpa [hlen] using this
  have h1 : outs[j]? = some (outs.getD j 0) := by simp [List.getD, hjl]
  have h2 : outs.getD j 0 ∈ outs := List.mem_of_getElem? h1
  have h3 : outs.idxOf (outs.getD j 0) = j := nodup_idx hnda h1
  have h4 : getO h' (outs.getD j 0) = getO (os.map some) j := by rw [hget, if_pos h2, h3, getO_map]
  have hφ := hφ2 _ h2
  rw [h3] at hφ
  refine ⟨⟨fun cs' hc => ?_, fun e s o f l hc => ?_, fun d hc => ?_⟩, by rw [h4]; exact hj⟩
  rotate_left 2
  ·rw [show getO h' ((fun i => outs.getD i 0) j) = _ from h4] at hc
   exact ⟨hc, hφ.1⟩
  ·rw [show getO h' ((fun i => outs.getD i 0) j) = _ from h4] at hc
   exact ⟨⟨_, hc⟩, hφ.1⟩
  ·rw [show getO h' ((fun i => outs.getD i 0) j) = _ from h4] at hc
   exact ⟨_, _, hc, hφ.1, hφ.2⟩
 have hSh1 : TrSh x1 x3 (fun o => o) false := fun o k q ho hS => by
  have ho : o = false := by cases o with | false => rfl | true => exact absurd (ho rfl) (by simp)
  have hk : x.w.heap.size ≤ k := by
   have := hS.2.resolve_left (by simp [ho])
   rw [hx1B] at this
   exact this
  exact ⟨⟨.inr ⟨hS.1, hk⟩, .inr (Nat.le_trans hB hk)⟩, rfl⟩
 refine hK x3 (mkRes us) hInv hStep (finish_rel (by simpa [trL_map] using post.len) fun i b' u h1 h2 => ?_) fun id hid => ?_
 ·rw [trL_map, List.getElem?_map, Option.map_eq_some_iff] at h1
  obtain ⟨b0, h3, rfl⟩ := h1
  refine (post.rel i b0 u h3 h2).tr hSh1 (fun ho => ?_) fun j hj => (hTr1 j (post.live j (mem_refsL h3 hj))).1
  rw [isOldL_mem h3 ho] at hold
  cases hold
 ·have hid := finish_refs hid
  rw [refsL_tr, List.mem_map] at hid
  obtain ⟨j0, hj0, rfl⟩ := hid
  exact (hTr1 j0 (post.live j0 hj0)).2
theorem bcall_ok' (hF : FnsOk P G F) {o : Oper} {c : Call} {f : FuncId} (ho : o.op = .call c) (hc : c.callee = .value (.func (real f))) (hlt : f < 2000000) (hs : RelS G x st a) {outs : List Nat} {v : AV} {h' : Heap}
  (he : evW G st.t F st.h (.bcall f (c.args.toList.map trO) outs) = some (v, h')) : OpOk P o a G x st.h v h' := by
 simp only [evW] at he
 split at he
 ·rename_i as hv
  split at he
  ·rename_i hem
   split at he
   ·rename_i rs os hFe
    split at he
    ·rename_i hcc
     split at he
     ·rename_i h2 hal
      simp only [Option.some.injEq, Prod.mk.injEq] at he
      obtain ⟨rfl, rfl⟩ := he
      exact bcall_ok hF.ok hs.inv hs.b0 (call_run ho hc (hF.enters _ _ _ _ hFe hlt) x.w) (by simp) (args_rel hs _) hv (by simpa using hem) hFe hlt hcc.1 hcc.2.1 (by simpa using hcc.2.2) hal
     ·simp at he
    ·simp at he
   ·simp at he
  ·simp at he
 ·simp at he
theorem ev1_ok (hF : FnsOk P G F) {o : Oper} {an op1 : Op1} (htr : tr1 P o.op an = some op1) (hs : RelS G x st a) {v : AV} {h' : Heap} (he : ev1 G F st op1 = some (v, h')) : OpOk P o a G x st.h v h' := by
 have hP : ∀ {q : Op1}, q.cls = .p → ev1 G F st q = some (v, h') → ∃ al, evP G st.t F q = some (v, al) ∧ alloc al st.h = some h' := fun {q} hq hev => by
  simp only [ev1, hq] at hev
  split at hev
  ·rename_i v' al h1
   split at hev
   ·rename_i h2 h3
    simp only [Option.some.injEq, Prod.mk.injEq] at hev
    obtain ⟨rfl, rfl⟩ := hev
    exact ⟨al, h1, h3⟩
   ·simp at hev
  ·simp at hev
 have hP0 : ∀ {q : Op1} {al : List (Nat × Obj)}, al = [] → alloc al st.h = some h' → h' = st.h := fun {q al} h1 h2 => by
  subst h1
  simpa [alloc] using h2.symm
 have hR : ∀ {q : Op1}, q.cls = .r → ev1 G F st q = some (v, h') → evR G st.t st.h q = some v ∧ h' = st.h := fun {q} hq hev => by
  simp only [ev1, hq] at hev
  split at hev
  ·rename_i v' h1
   simp only [Option.some.injEq, Prod.mk.injEq] at hev
   obtain ⟨rfl, rfl⟩ := hev
   exact ⟨h1, rfl⟩
  ·simp at hev
 have hW : ∀ {q : Op1}, q.cls = .w → ev1 G F st q = some (v, h') → evW G st.t F st.h q = some (v, h') := fun {q} hq hev => by
  simpa only [ev1, hq] using hev
 unfold tr1 at htr
 split at htr
 ·injection htr with htr; subst htr
  obtain ⟨al, h1, h2⟩ := hP rfl he
  simp [evP] at h1
 rename_i hnt
 clear hnt
 unfold tr0 at htr
 split at htr
 ·rename_i y ho
  injection htr with htr; subst htr
  unfold mvOr at he
  split at he
  ·obtain ⟨al, h1, h2⟩ := hP rfl he
   simp only [evP, Option.some.injEq, Prod.mk.injEq] at h1
   obtain ⟨rfl, rfl⟩ := h1
   obtain rfl := hP0 (q := .mv (trO y)) rfl h2
   exact cn_ok (.inl ho) hs
  ·obtain ⟨al, h1, h2⟩ := hP rfl he
   simp only [evP, Option.some.injEq, Prod.mk.injEq] at h1
   obtain ⟨rfl, rfl⟩ := h1
   obtain rfl := hP0 (q := .mv (trO y)) rfl h2
   exact mv_ok (.inl ho) hs
 ·rename_i y ho
  injection htr with htr; subst htr
  unfold mvOr at he
  split at he
  ·obtain ⟨al, h1, h2⟩ := hP rfl he
   simp only [evP, Option.some.injEq, Prod.mk.injEq] at h1
   obtain ⟨rfl, rfl⟩ := h1
   obtain rfl := hP0 (q := .mv (trO y)) rfl h2
   exact cn_ok (.inr ho) hs
  ·obtain ⟨al, h1, h2⟩ := hP rfl he
   simp only [evP, Option.some.injEq, Prod.mk.injEq] at h1
   obtain ⟨rfl, rfl⟩ := h1
   obtain rfl := hP0 (q := .mv (trO y)) rfl h2
   exact mv_ok (.inr ho) hs
 ·rename_i c y z ho
  injection htr with htr; subst htr
  obtain ⟨al, h1, h2⟩ := hP rfl he
  simp only [evP] at h1
  split at h1
  ·rename_i hb
   simp only [Option.some.injEq, Prod.mk.injEq] at h1
   obtain ⟨rfl, rfl⟩ := h1
   obtain rfl := hP0 (q := .mv (trO y)) rfl h2
   exact pick_ok ho hs hb
  ·rename_i hb
   simp only [Option.some.injEq, Prod.mk.injEq] at h1
   obtain ⟨rfl, rfl⟩ := h1
   obtain rfl := hP0 (q := .mv (trO y)) rfl h2
   exact pick_ok ho hs hb
  ·simp at h1
 ·rename_i t ho
  split at htr
  ·rename_i s zs0
   obtain ⟨zs, hz, rfl⟩ := Option.map_eq_some_iff.1 htr
   obtain ⟨al, h1, h2⟩ := hP rfl he
   simp only [evP, Option.some.injEq, Prod.mk.injEq] at h1
   obtain ⟨rfl, rfl⟩ := h1
   exact new_ok ho (tzero_ok hz) hs h2
  ·simp at htr
 ·rename_i t y ho
  split at htr
  ·rename_i s sz y0
   injection htr with htr; subst htr
   obtain ⟨al, h1, h2⟩ := hP rfl he
   simp only [evP] at h1
   split at h1
   ·rename_i hc
    simp only [Option.some.injEq, Prod.mk.injEq] at h1
    obtain ⟨rfl, rfl⟩ := h1
    exact box_ok ho hs hc.2 h2
   ·simp at h1
  ·simp at htr
 ·rename_i t ps ho
  split at htr
  ·rename_i zs pl hz hpl
   obtain ⟨qs, hq, rfl⟩ := Option.map_eq_some_iff.1 htr
   obtain ⟨al, h1, h2⟩ := hP rfl he
   simp only [evP] at h1
   split at h1
   ·rename_i qq hqq
    simp only [Option.some.injEq, Prod.mk.injEq] at h1
    obtain ⟨rfl, rfl⟩ := h1
    obtain rfl := hP0 (q := .mv (.t 0)) rfl h2
    exact build_ok ho (tzero_ok hz) (tplaces_ok hpl) hq hs hqq
   ·simp at h1
  ·simp at htr
 ·rename_i t n ps ho
  split at htr
  ·rename_i e hsl
   split at htr
   ·rename_i zs sz hz hsz
    split at htr
    ·rename_i hc
     split at htr
     ·injection htr with htr; subst htr
      obtain ⟨al, h1, h2⟩ := hP rfl he
      simp only [evP] at h1
      split at h1
      ·rename_i qq hqq
       simp only [Option.some.injEq, Prod.mk.injEq] at h1
       obtain ⟨rfl, rfl⟩ := h1
       exact lit_ok ho (tslice_ok hsl) (tzero_ok hz) hsz hc.1 hc.2.1 hc.2.2 hs hqq h2
      ·simp at h1
     ·injection htr with htr; subst htr
      obtain ⟨al, h1, h2⟩ := hP rfl he
      simp only [evP] at h1
      split at h1
      ·rename_i qq hqq
       simp only [Option.some.injEq, Prod.mk.injEq] at h1
       obtain ⟨rfl, rfl⟩ := h1
       obtain rfl := hP0 (q := .mv (.t 0)) rfl h2
       exact litd_ok ho (tslice_ok hsl) (tzero_ok hz) hsz hc.1 hc.2.2 hs hqq
      ·simp at h1
     ·simp at htr
    ·simp at htr
   ·simp at htr
  ·simp at htr
 ·rename_i t y ho
  split at htr
  ·rename_i ag sz h3 h4
   injection htr with htr; subst htr
   obtain ⟨h1, rfl⟩ := hR rfl he
   exact load_ok ho (tagg_ok h3) h4 hs h1
  ·simp at htr
 ·rename_i t y z ho
  obtain ⟨sz, h3, rfl⟩ := Option.map_eq_some_iff.1 htr
  exact store_ok ho h3 hs (hW rfl he)
 ·rename_i y ho
  injection htr with htr; subst htr
  obtain ⟨al, h1, h2⟩ := hP rfl he
  obtain ⟨h3, h4⟩ := nilc_ok ho hs h1
  obtain rfl := hP0 (q := .mv (.t 0)) h3 h2
  exact h4
 ·rename_i op xt y z yt ho
  split at htr
  ·split at htr
   ·rename_i htk
    injection htr with htr; subst htr
    obtain ⟨al, h1, h2⟩ := hP rfl he
    simp only [evP] at h1
    split at h1
    ·rename_i u hu
     simp only [Option.some.injEq, Prod.mk.injEq] at h1
     obtain ⟨rfl, rfl⟩ := h1
     obtain rfl := hP0 (q := .mv (.t 0)) rfl h2
     exact bin_ok ho (tkOk_ok htk) hs hu
    ·simp at h1
   ·simp at htr
  ·split at htr
   ·rename_i hep
    injection htr with htr; subst htr
    obtain ⟨h1, rfl⟩ := hR rfl he
    exact eqp_ok ho hep hs h1
   ·simp at htr
  ·simp at htr
 ·rename_i op t y ho
  injection htr with htr; subst htr
  obtain ⟨al, h1, h2⟩ := hP rfl he
  simp only [evP] at h1
  split at h1
  ·rename_i u hu
   simp only [Option.some.injEq, Prod.mk.injEq] at h1
   obtain ⟨rfl, rfl⟩ := h1
   obtain rfl := hP0 (q := .mv (.t 0)) rfl h2
   exact un_ok ho hs hu
  ·simp at h1
 ·rename_i s d y ho
  split at htr
  ·split at htr
   ·rename_i ds k h3 h4
    injection htr with htr; subst htr
    obtain ⟨al, h1, h2⟩ := hP rfl he
    simp only [evP] at h1
    split at h1
    ·rename_i u hu
     simp only [Option.some.injEq, Prod.mk.injEq] at h1
     obtain ⟨rfl, rfl⟩ := h1
     obtain rfl := hP0 (q := .mv (.t 0)) rfl h2
     exact conv_ok ho ⟨_, h3⟩ (tint_ok h4) hs hu
    ·simp at h1
   ·simp at htr
  ·split at htr
   ·rename_i e h3
    split at htr
    ·rename_i hc
     injection htr with htr; subst htr
     obtain ⟨al, h1, h2⟩ := hP rfl he
     simp only [evP] at h1
     split at h1
     ·rename_i u hu
      simp only [Option.some.injEq, Prod.mk.injEq] at h1
      obtain ⟨rfl, rfl⟩ := h1
      obtain rfl := hP0 (q := .mv (.t 0)) rfl h2
      exact s2b_ok ho (isStr_ok hc.1) (tslice_ok h3) (tint_ok hc.2) hs hu
     ·simp at h1
    ·simp at htr
   ·simp at htr
  ·split at htr
   ·rename_i e h3
    split at htr
    ·rename_i hc
     injection htr with htr; subst htr
     obtain ⟨h1, rfl⟩ := hR rfl he
     exact b2s_ok ho (tslice_ok h3) (tint_ok hc.2) (isStr_ok hc.1) hs h1
    ·simp at htr
   ·simp at htr
  ·split at htr
   ·rename_i e h3
    split at htr
    ·rename_i hc
     injection htr with htr; subst htr
     obtain ⟨rfl, hc⟩ := hc
     exact markb_ok ho (tslice_ok h3) (tint_ok hc) hs (hW rfl he)
    ·simp at htr
   ·simp at htr
  ·simp at htr
 ·rename_i t y ho
  split at htr
  ·rename_i d hd
   split at htr
   ·simp at htr
   ·rename_i hni
    injection htr with htr; subst htr
    obtain ⟨al, h1, h2⟩ := hP rfl he
    obtain ⟨h3, h4⟩ := mki_ok ho ⟨d, hd, fun ms hm => hni (by simp [isIfc, hd, hm])⟩ hs h1
    obtain rfl := hP0 (q := .mv (.t 0)) h3 h2
    exact h4
  ·simp at htr
 ·rename_i fn first caps ho
  split at htr
  ·rename_i f hfirst
   have hfirst : first = #[] := by
    apply Array.ext'
    simpa using hfirst
   subst hfirst
   injection htr with htr; subst htr
   obtain ⟨al, h1, h2⟩ := hP rfl he
   simp only [evP, Option.some.injEq, Prod.mk.injEq] at h1
   obtain ⟨rfl, rfl⟩ := h1
   obtain rfl := hP0 (q := .mv (.t 0)) rfl h2
   exact mkf_ok ho hs
  ·simp at htr
 ·rename_i t y z ho
  split at htr
  ·rename_i e hsl
   split at htr
   ·rename_i sz b zs hel
    injection htr with htr; subst htr
    obtain ⟨al, h1, h2⟩ := hP rfl he
    simp only [evP] at h1
    split at h1
    ·rename_i n c hn hcc
     split at h1
     ·rename_i hc
      obtain ⟨rfl, hc1, hc2, hc3⟩ := hc
      simp only [Option.some.injEq, Prod.mk.injEq] at h1
      obtain ⟨rfl, rfl⟩ := h1
      have te := telem_ok hel
      exact make_ok ho (tslice_ok hsl) te.zero te.size te.bytes te.len te.pos hs hn hcc hc1 hc2 hc3 h2
     ·simp at h1
    ·simp at h1
   ·simp at htr
  ·simp at htr
 ·rename_i t y lo hi mx ho
  split at htr
  ·split at htr
   ·split at htr
    ·rename_i hst
     injection htr with htr; subst htr
     obtain ⟨al, h1, h2⟩ := hP rfl he
     obtain ⟨h3, h4⟩ := slices_ok ho (isStr_ok hst) hs h1
     obtain rfl := hP0 (q := .mv (.t 0)) h3 h2
     exact h4
    ·simp at htr
   ·simp at htr
  ·split at htr
   ·rename_i e hsl
    obtain ⟨sz, hsz, rfl⟩ := Option.map_eq_some_iff.1 htr
    obtain ⟨al, h1, h2⟩ := hP rfl he
    obtain ⟨h3, h4⟩ := slice_ok ho (tslice_ok hsl) hsz hs h1
    obtain rfl := hP0 (q := .mv (.t 0)) h3 h2
    exact h4
   ·simp at htr
  ·split at htr
   ·rename_i z e hsl
    obtain ⟨sz, hsz, rfl⟩ := Option.map_eq_some_iff.1 htr
    exact trunc_ok ho (tslice_ok hsl) ⟨sz, hsz⟩ hs (hW rfl he)
   ·simp at htr
  ·simp at htr
 ·rename_i t y i ho
  split at htr
  ·rename_i fs hst
   split at htr
   ·rename_i f hf
    split at htr
    ·rename_i ag sz h3 h4
     injection htr with htr; subst htr
     obtain ⟨al, h1, h2⟩ := hP rfl he
     simp only [evP] at h1
     split at h1
     ·rename_i l hq
      have key : al = [] ∧ partA ag f.offset sz l = some v := by
       unfold partA
       split at h1
       ·split at h1
        ·simp only [Option.some.injEq, Prod.mk.injEq] at h1
         obtain ⟨rfl, rfl⟩ := h1
         simp [*]
        ·simp at h1
       ·split at h1
        ·simp only [Option.some.injEq, Prod.mk.injEq] at h1
         obtain ⟨rfl, rfl⟩ := h1
         simp [*]
        ·simp at h1
      obtain rfl := hP0 (q := .mv (.t 0)) key.1 h2
      exact fld_ok ho hst hf (tagg_ok h3) h4 hs hq key.2
     ·simp at h1
    ·simp at htr
   ·simp at htr
  ·simp at htr
 ·rename_i t y i ho
  split at htr
  ·rename_i fs hst
   split at htr
   ·rename_i f hf
    split at htr
    ·rename_i n hn
     injection htr with htr; subst htr
     obtain ⟨al, h1, h2⟩ := hP rfl he
     obtain ⟨h3, h4⟩ := fa_ok ho hst hf hn hs h1
     obtain rfl := hP0 (q := .mv (.t 0)) h3 h2
     exact h4
    ·simp at htr
   ·simp at htr
  ·simp at htr
 ·rename_i t y z ho
  split at htr
  ·rename_i n e hst
   obtain ⟨sz, hsz, rfl⟩ := Option.map_eq_some_iff.1 htr
   obtain ⟨al, h1, h2⟩ := hP rfl he
   obtain ⟨h3, h4⟩ := iap_ok ho hst hsz hs h1
   obtain rfl := hP0 (q := .mv (.t 0)) h3 h2
   exact h4
  ·rename_i e hst
   obtain ⟨sz, hsz, rfl⟩ := Option.map_eq_some_iff.1 htr
   obtain ⟨h1, rfl⟩ := hR rfl he
   exact ia_ok ho hst hsz hs h1
  ·simp at htr
 ·rename_i t y z ho
  split at htr
  ·rename_i n e hst
   split at htr
   ·rename_i ag sz h3 h4
    injection htr with htr; subst htr
    obtain ⟨al, h1, h2⟩ := hP rfl he
    simp only [evP] at h1
    split at h1
    ·rename_i l k i hq hz
     split at h1
     ·rename_i hi
      have key : al = [] ∧ partA ag (i.toNat * sz) sz l = some v := by
       unfold partA
       split at h1
       ·split at h1
        ·simp only [Option.some.injEq, Prod.mk.injEq] at h1
         obtain ⟨rfl, rfl⟩ := h1
         simp [*]
        ·simp at h1
       ·split at h1
        ·simp only [Option.some.injEq, Prod.mk.injEq] at h1
         obtain ⟨rfl, rfl⟩ := h1
         simp [*]
        ·simp at h1
      obtain rfl := hP0 (q := .mv (.t 0)) key.1 h2
      exact ix_ok ho hst (tagg_ok h3) h4 hs hq hz hi key.2
     ·simp at h1
    ·simp at h1
   ·simp at htr
  ·rename_i hst
   injection htr with htr; subst htr
   obtain ⟨al, h1, h2⟩ := hP rfl he
   simp only [evP] at h1
   split at h1
   ·rename_i s k i hq hz
    split at h1
    ·rename_i hi
     split at h1
     ·rename_i b hb
      simp only [Option.some.injEq, Prod.mk.injEq] at h1
      obtain ⟨rfl, rfl⟩ := h1
      obtain rfl := hP0 (q := .mv (.t 0)) rfl h2
      exact ixs_ok ho hst hs hq hz hi hb
     ·simp at h1
    ·simp at h1
   ·simp at h1
  ·simp at htr
 ·rename_i y i ho
  injection htr with htr; subst htr
  obtain ⟨al, h1, h2⟩ := hP rfl he
  simp only [evP] at h1
  split at h1
  ·rename_i l hq
   split at h1
   ·rename_i u hu
    simp only [Option.some.injEq, Prod.mk.injEq] at h1
    obtain ⟨rfl, rfl⟩ := h1
    obtain rfl := hP0 (q := .mv (.t 0)) rfl h2
    exact ext_ok ho hs hq hu
   ·simp at h1
  ·simp at h1
 ·rename_i c ho
  split at htr
  ·rename_i g hg
   split at htr
   ·split at htr
    ·rename_i f' _ outs f
     split at htr
     ·rename_i hre
      obtain ⟨hre, hlt⟩ := hre
      subst hre
      injection htr with htr; subst htr
      obtain ⟨al, h1, h2⟩ := hP rfl he
      exact evCall_ok' hF ho hg hlt hs (qcall_eq h1 h2)
     ·simp at htr
    ·simp at htr
   ·split at htr
    ·rename_i f' _ outs f
     split at htr
     ·rename_i hre
      obtain ⟨hre, hlt⟩ := hre
      subst hre
      injection htr with htr; subst htr
      exact evCall_ok' hF ho hg hlt hs (hW rfl he)
     ·simp at htr
    ·simp at htr
   ·split at htr
    ·rename_i f' _ outs f
     split at htr
     ·rename_i hre
      obtain ⟨hre, hlt⟩ := hre
      subst hre
      injection htr with htr; subst htr
      exact bcall_ok' hF ho hg hlt hs (hW rfl he)
     ·simp at htr
    ·simp at htr
   ·injection htr with htr; subst htr
    have h1 := hW rfl he
    simp only [evW] at h1
    split at h1
    ·rename_i f caps hq
     split at h1
     case isFalse => simp at h1
     rename_i hlt
     have hre : real f = f := if_pos hlt
     have hr := hs.opd g
     rw [hq] at hr
     have hl : ∀ id ∈ refsL caps, (getO st.h id).isSome := fun id hid => hs.opdRefs g id (by rw [hq]; simpa [AV.refs] using hid)
     generalize hev : a.eval g = u at hr
     cases hr with
     | clos f l vs hlen hrr =>
      obtain ⟨_, _, _, hFe⟩ := evCall_some h1
      refine evCall_ok (vals := c.args.toList.map a.eval ++ vs) hF.gf hs.inv hs.b0 (hcall_of (hre.symm ▸ callv_run ho hg hev (hre ▸ hF.enters _ _ _ _ hFe (Nat.lt_trans hlt (by decide))) x.w) hF.ok (Nat.lt_trans hlt (by decide))) (by simp [hlen]) (fun i b v' h3 h4 => ?_) (fun id hid => ?_) h1
      ·have hl1 : ((c.args.toList.map trO).map (rho G st.t)).length = (c.args.toList.map a.eval).length := by simp
       rw [List.getElem?_append] at h3 h4
       rw [hl1] at h3
       split at h3
       ·rename_i hlt
        rw [if_pos hlt] at h4
        exact args_rel hs _ i b v' h3 h4
       ·rename_i hlt
        rw [if_neg hlt] at h4
        exact hrr _ b v' h3 h4
      ·obtain ⟨i, b, h3, h4⟩ := mem_refsL_iff.1 hid
       rw [List.getElem?_append] at h3
       split at h3
       ·exact args_live hs _ id (mem_refsL h3 h4)
       ·exact hl id (mem_refsL h3 h4)
    ·simp at h1
   ·split at htr
    ·rename_i f y z hargs
     split at htr
     ·rename_i hcmp
      injection htr with htr; subst htr
      obtain ⟨h1, h2⟩ := hR rfl he
      subst h2
      obtain ⟨fn, k1, k2, k3, k4, k5⟩ := isCmp_ok hcmp
      exact cmpb_ok ho hg hargs k1 k2 k3 k4 k5 hs h1
     ·simp at htr
    ·simp at htr
   ·simp at htr
  ·rename_i b hb
   split at htr
   ·rename_i y z h3
    injection htr with htr; subst htr
    have ho' : o.op = .call { callee := .builtin .max, args := #[y, z], argTypes := c.argTypes } := by
     rw [ho]
     cases c
     simp_all
     apply Array.ext'
     simpa using h3
    obtain ⟨al, h1, h2⟩ := hP rfl he
    simp only [evP] at h1
    split at h1
    ·simp only [Option.some.injEq, Prod.mk.injEq] at h1
     obtain ⟨rfl, rfl⟩ := h1
     obtain rfl := hP0 (q := .mv (.t 0)) rfl h2
     exact mx_ok ho' hs (by assumption) (by assumption)
    ·simp at h1
   ·rename_i y z h3
    injection htr with htr; subst htr
    have ho' : o.op = .call { callee := .builtin .min, args := #[y, z], argTypes := c.argTypes } := by
     rw [ho]
     cases c
     simp_all
     apply Array.ext'
     simpa using h3
    obtain ⟨al, h1, h2⟩ := hP rfl he
    simp only [evP] at h1
    split at h1
    ·simp only [Option.some.injEq, Prod.mk.injEq] at h1
     obtain ⟨rfl, rfl⟩ := h1
     obtain rfl := hP0 (q := .mv (.t 0)) rfl h2
     exact mn_ok ho' hs (by assumption) (by assumption)
    ·simp at h1
   ·rename_i y t h3 h4
    obtain ⟨e, hsl, rfl⟩ := Option.map_eq_some_iff.1 htr
    have ho' : o.op = .call { callee := .builtin .cap, args := #[y], argTypes := #[t] } := by
     rw [ho]
     cases c
     simp_all
     exact ⟨by apply Array.ext'; simpa using h3, by apply Array.ext'; simpa using h4⟩
    obtain ⟨al, h1, h2⟩ := hP rfl he
    simp only [evP] at h1
    split at h1
    ·simp only [Option.some.injEq, Prod.mk.injEq] at h1
     obtain ⟨rfl, rfl⟩ := h1
     obtain rfl := hP0 (q := .mv (.t 0)) rfl h2
     exact capn_ok ho' (tslice_ok hsl) hs (by assumption)
    ·simp at h1
   ·rename_i y t h3 h4
    have ho' : o.op = .call { callee := .builtin .len, args := #[y], argTypes := #[t] } := by
     rw [ho]
     cases c
     simp_all
     exact ⟨by apply Array.ext'; simpa using h3, by apply Array.ext'; simpa using h4⟩
    split at htr
    ·rename_i hst
     injection htr with htr; subst htr
     obtain ⟨h1, rfl⟩ := hR rfl he
     exact len_ok (str := true) ho' (by simpa using isStr_ok hst) hs h1
    ·obtain ⟨e, hsl, rfl⟩ := Option.map_eq_some_iff.1 htr
     obtain ⟨h1, rfl⟩ := hR rfl he
     exact len_ok (str := false) ho' (by simpa using ⟨e, tslice_ok hsl⟩) hs h1
   ·rename_i y z t t2 h3 h4
    have ho' : o.op = .call { callee := .builtin .append, args := #[y, z], argTypes := #[t, t2] } := by
     rw [ho]
     cases c
     simp_all
     exact ⟨by apply Array.ext'; simpa using h3, by apply Array.ext'; simpa using h4⟩
    split at htr
    ·rename_i e hsl
     split at htr
     ·rename_i sz b zs hel
      split at htr
      ·split at htr
       ·rename_i d hd hn
        injection htr with htr; subst htr
        refine app_ok ho' (tslice_ok hsl) ⟨d, hd, fun k hk => ?_⟩ (telem_ok hel) hs (hW rfl he)
        subst hk
        simp [tint, hd] at hn
       ·simp at htr
      ·obtain ⟨k, hk, rfl⟩ := Option.map_eq_some_iff.1 htr
       exact appz_ok ho' (tslice_ok hsl) (tint_ok hk) (telem_ok hel) hs (hW rfl he)
      ·simp at htr
     ·simp at htr
    ·simp at htr
   ·simp at htr
  ·simp at htr
 ·rename_i t y k ok ho
  split at htr
  ·rename_i f _ outs
   split at htr
   ·rename_i hc
    obtain ⟨rfl, rfl⟩ := hc
    injection htr with htr; subst htr
    refine pcall_ok' (as := [y, k]) hF (pid0 t).2 (fun v w' h1 => .inl ?_) hs (hW rfl he)
    rw [(pid0 t).1] at h1
    simp only [List.map_cons, List.map_nil, p_lookup] at h1
    simp [execOp, ho, h1]
   ·simp at htr
  ·simp at htr
 ·rename_i t m k y ho
  split at htr
  ·rename_i f _ outs
   split at htr
   ·rename_i hc
    subst hc
    injection htr with htr; subst htr
    refine pcall_ok' (as := [m, k, y]) hF (pid1 t).2 (fun v w' h1 => .inr ?_) hs (hW rfl he)
    rw [(pid1 t).1] at h1
    simp only [List.map_cons, List.map_nil, p_update, Sem.run_bind] at h1
    cases h2 : (Instr.mapUpdate t (a.eval m) (a.eval k) (a.eval y)).run P x.w with
    | ok u w2 =>
     rw [h2] at h1
     simp only [Result.andThen_ok, Sem.run_pure, Result.ok.injEq] at h1
     obtain ⟨rfl, rfl⟩ := h1
     exact ⟨by simp [execOp, ho, h2], rfl⟩
    | halt z w2 => rw [h2] at h1; simp [Result.andThen] at h1
   ·simp at htr
  ·simp at htr
 ·rename_i t r ho
  split at htr
  ·rename_i f _ outs
   split at htr
   ·rename_i hc
    obtain ⟨hr, rfl⟩ := hc
    cases r with
    | some r => simp at hr
    | none =>
     injection htr with htr; subst htr
     refine pcall_ok' (as := []) hF (pid2 t).2 (fun v w' h1 => .inl ?_) hs (hW rfl he)
     rw [(pid2 t).1] at h1
     simp only [List.map_nil, p_make] at h1
     simp [execOp, ho, h1]
   ·simp at htr
  ·simp at htr
 ·simp at htr
end
end Go.Ev
