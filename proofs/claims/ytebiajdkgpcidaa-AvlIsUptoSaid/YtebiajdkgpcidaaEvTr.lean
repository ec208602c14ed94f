/-
  Values and objects under other names: what a call hands down, and what comes back.
-/
import Derived.Test.YtebiajdkgpcidaaEvOps9
set_option linter.unusedSimpArgs false
set_option linter.unusedVariables false
namespace Go.Ev

mutual
def AV.tr (r : Nat → Nat) (g : Bool → Bool) : AV → AV
  | .row id n => .row (r id) n
  | .ptr id o => .ptr (r id) o
  | .eptr id n i k => .eptr (r id) n i k
  | .sl o l => .sl (g o) l
  | .daddr o l => .daddr (g o) l
  | .agg l => .agg (trL r g l)
  | .tup l => .tup (trL r g l)
  | .clos f l => .clos f (trL r g l)
  | .ifc t v => .ifc t (v.tr r g)
  | v => v
def trL (r : Nat → Nat) (g : Bool → Bool) : List AV → List AV
  | [] => []
  | a :: l => a.tr r g :: trL r g l
end

theorem trL_map (r : Nat → Nat) (g : Bool → Bool) (l : List AV) : trL r g l = l.map (AV.tr r g) := by
  induction l with
  | nil => rfl
  | cons a l ih => simp [trL, ih]

mutual
theorem AV.ren_tr (r : Nat → Nat) : ∀ a : AV, a.ren r = a.tr r (fun o => o)
  | .undef => rfl
  | .s v => rfl
  | .sl o l => rfl
  | .nilsl => rfl
  | .esl => rfl
  | .row id n => rfl
  | .ptr id o => rfl
  | .eptr id n i k => rfl
  | .daddr o l => rfl
  | .agg l => by simp only [AV.ren, AV.tr]; rw [renL_tr r l]
  | .tup l => by simp only [AV.ren, AV.tr]; rw [renL_tr r l]
  | .ifc t v => by simp only [AV.ren, AV.tr]; rw [AV.ren_tr r v]
  | .clos f l => by simp only [AV.ren, AV.tr]; rw [renL_tr r l]
theorem renL_tr (r : Nat → Nat) : ∀ l : List AV, renL r l = trL r (fun o => o) l
  | [] => rfl
  | a :: l => by simp only [renL, trL]; rw [AV.ren_tr r a, renL_tr r l]
end

mutual
theorem AV.age_tr (r : Nat → Nat) (g : Bool → Bool) (c : Bool) : ∀ a : AV, (a.tr r g).age c = a.tr r (fun _ => c)
  | .undef => rfl
  | .s v => rfl
  | .sl o l => rfl
  | .nilsl => rfl
  | .esl => rfl
  | .row id n => rfl
  | .ptr id o => rfl
  | .eptr id n i k => rfl
  | .daddr o l => rfl
  | .agg l => by simp only [AV.age, AV.tr]; rw [ageL_tr r g c l]
  | .tup l => by simp only [AV.age, AV.tr]; rw [ageL_tr r g c l]
  | .ifc t v => by simp only [AV.age, AV.tr]; rw [AV.age_tr r g c v]
  | .clos f l => by simp only [AV.age, AV.tr]; rw [ageL_tr r g c l]
theorem ageL_tr (r : Nat → Nat) (g : Bool → Bool) (c : Bool) : ∀ l : List AV, ageL c (trL r g l) = trL r (fun _ => c) l
  | [] => rfl
  | a :: l => by simp only [ageL, trL]; rw [AV.age_tr r g c a, ageL_tr r g c l]
end

mutual
theorem AV.refs_tr (r : Nat → Nat) (g : Bool → Bool) : ∀ a : AV, (a.tr r g).refs = a.refs.map r
  | .undef => rfl
  | .s v => rfl
  | .sl o l => rfl
  | .nilsl => rfl
  | .esl => rfl
  | .row id n => rfl
  | .ptr id o => rfl
  | .eptr id n i k => rfl
  | .daddr o l => rfl
  | .agg l => by simp only [AV.refs, AV.tr]; exact refsL_tr r g l
  | .tup l => by simp only [AV.refs, AV.tr]; exact refsL_tr r g l
  | .ifc t v => by simp only [AV.refs, AV.tr]; exact AV.refs_tr r g v
  | .clos f l => by simp only [AV.refs, AV.tr]; exact refsL_tr r g l
theorem refsL_tr (r : Nat → Nat) (g : Bool → Bool) : ∀ l : List AV, refsL (trL r g l) = (refsL l).map r
  | [] => rfl
  | a :: l => by simp only [refsL, trL, List.map_append]; rw [AV.refs_tr r g a, refsL_tr r g l]
end

def Obj.tr (r : Nat → Nat) (g : Bool → Bool) : Obj → Obj
  | .var l => .var (trL r g l)
  | .row e s o f l => .row e s (g o) f l
  | o => o

theorem Obj.ren_tr (r : Nat → Nat) (o : Obj) : o.ren r = o.tr r (fun o => o) := by
  cases o <;> simp [Obj.ren, Obj.tr, renL_tr]
theorem Obj.age_tr (r : Nat → Nat) (g : Bool → Bool) (c : Bool) (o : Obj) : (o.tr r g).age c = o.tr r (fun _ => c) := by
  cases o <;> simp [Obj.age, Obj.tr, ageL_tr]
theorem Obj.refs_tr (r : Nat → Nat) (g : Bool → Bool) (o : Obj) : (o.tr r g).refs = o.refs.map r := by
  cases o <;> simp [Obj.refs, Obj.tr, refsL_tr]

theorem isOldL_mem {l : List AV} {i : Nat} {a : AV} (h : l[i]? = some a) (ho : a.isOld = true) : isOldL l = true := by
  induction l generalizing i with
  | nil => simp at h
  | cons b r ih =>
    simp only [isOldL, Bool.or_eq_true]
    cases i with
    | zero => simp at h; subst h; exact .inl ho
    | succ i => exact .inr (ih (by simpa using h))

/-- A slot under another name. -/
def TrId (x : Cx) (h : Heap) (x' : Cx) (h' : Heap) (r : Nat → Nat) (id : Nat) : Prop :=
  (∀ cs', getO h' (r id) = some (.var cs') → (∃ cs, getO h id = some (.var cs)) ∧ x'.φ (r id) = x.φ id) ∧
  (∀ e s o f l, getO h' (r id) = some (.row e s o f l) → ∃ o' f', getO h id = some (.row e s o' f' l) ∧ x'.φ (r id) = x.φ id ∧ x'.κ (r id) = x.κ id)

/-- Shared cells under another name. -/
def TrSh (x x' : Cx) (g : Bool → Bool) (ob : Bool) : Prop :=
  ∀ o b q, (o = true → ob = true) → x.sh o b q → x'.sh (g o) b q ∧ x'.w.cell? ⟨b, q, none⟩ = x.w.cell? ⟨b, q, none⟩

theorem RelV.tr {x x' : Cx} {h h' : Heap} {r : Nat → Nat} {g : Bool → Bool} {ob : Bool} (hS : TrSh x x' g ob) {a : AV} {v : Value} (hr : RelV x h a v) (ho : a.isOld = true → ob = true) (hid : ∀ id ∈ a.refs, TrId x h x' h' r id) : RelV x' h' (a.tr r g) v := by
  induction hr with
  | undef v => exact .undef v
  | s v => exact .s v
  | sl old l v hr => exact .sl (g old) l v (hr.mono fun b q h => hS old b q (fun h' => ho h') h)
  | nilsl => exact .nilsl
  | esl a cap => exact .esl a cap
  | row id n v hv hle hr =>
    obtain ⟨_, h2⟩ := hid id (by simp [AV.refs])
    refine .row (r id) n v hv (fun e s o f l hg => ?_) fun e s o f l hg hl => ?_
    · obtain ⟨o', f', g0, _, _⟩ := h2 e s o f l hg
      exact hle _ _ _ _ _ g0
    · obtain ⟨o', f', g0, e1, e2⟩ := h2 e s o f l hg
      rw [e1, e2]
      exact hr _ _ _ _ _ g0 hl
  | ptr id off v hv hr =>
    obtain ⟨h1, _⟩ := hid id (by simp [AV.refs])
    refine .ptr (r id) off v hv fun cs hg => ?_
    obtain ⟨⟨c0, g0⟩, e1⟩ := h1 cs hg
    rw [e1]
    exact hr c0 g0
  | eptr id n i k v hv hle hr =>
    obtain ⟨_, h2⟩ := hid id (by simp [AV.refs])
    refine .eptr (r id) n i k v hv (fun e s o f l hg => ?_) fun e s o f l hg hl => ?_
    · obtain ⟨o', f', g0, _, _⟩ := h2 e s o f l hg
      exact hle _ _ _ _ _ g0
    · obtain ⟨o', f', g0, e1, e2⟩ := h2 e s o f l hg
      rw [e1]
      exact hr _ _ _ _ _ g0 hl
  | daddr old l b o vals hc hr =>
    refine .daddr (g old) l b o vals (fun j hj => ?_) fun j c hj => (hr j c hj).mono fun b q h => hS old b q (fun h' => ho h') h
    obtain ⟨h1, h2⟩ := hc j hj
    have := hS old _ _ (fun h' => ho h') h1
    exact ⟨this.1, this.2.trans h2⟩
  | agg l vs hl _ ih =>
    refine .agg _ vs (by simp [trL_map, hl]) fun i a v h1 h2 => ?_
    rw [trL_map, List.getElem?_map, Option.map_eq_some_iff] at h1
    obtain ⟨a0, h3, rfl⟩ := h1
    exact ih i a0 v h3 h2 (fun h' => ho (by simp only [AV.isOld]; exact isOldL_mem h3 h')) fun id hid' => hid id (by simp only [AV.refs]; exact mem_refsL h3 hid')
  | tup l vs hl _ ih =>
    refine .tup _ vs (by simp [trL_map, hl]) fun i a v h1 h2 => ?_
    rw [trL_map, List.getElem?_map, Option.map_eq_some_iff] at h1
    obtain ⟨a0, h3, rfl⟩ := h1
    exact ih i a0 v h3 h2 (fun h' => ho (by simp only [AV.isOld]; exact isOldL_mem h3 h')) fun id hid' => hid id (by simp only [AV.refs]; exact mem_refsL h3 hid')
  | ifc t a v _ ih => exact .ifc t _ v (ih (fun h' => ho (by simpa [AV.isOld] using h')) fun id hid' => hid id (by simpa [AV.refs] using hid'))
  | clos f l vs hl _ ih =>
    refine .clos f _ vs (by simp [trL_map, hl]) fun i a v h1 h2 => ?_
    rw [trL_map, List.getElem?_map, Option.map_eq_some_iff] at h1
    obtain ⟨a0, h3, rfl⟩ := h1
    exact ih i a0 v h3 h2 (fun h' => ho (by simp only [AV.isOld]; exact isOldL_mem h3 h')) fun id hid' => hid id (by simp only [AV.refs]; exact mem_refsL h3 hid')

theorem ObjRel.tr {x x' : Cx} {h h' : Heap} {r : Nat → Nat} {g : Bool → Bool} {ob : Bool} (hS : TrSh x x' g ob) {id : Nat} {o : Obj} (hr : ObjRel x h id o) (ho : o.isOld = true → ob = true) (hid : ∀ j ∈ o.refs, TrId x h x' h' r j)
    (hb : x'.w.heap[x.φ id]? = x.w.heap[x.φ id]?) (hp : x'.φ (r id) = x.φ id) (hk : x'.κ (r id) = x.κ id) (hB : ∀ e s o0 f l, o = .row e s o0 f l → g o0 = false → x'.B0 ≤ x.φ id) : ObjRel x' h' (r id) (o.tr r g) := by
  cases o with
  | dead => trivial
  | var cells =>
    obtain ⟨arr, e, h1, h2, h3⟩ := hr
    refine ⟨arr, e, by rw [hp, hb]; exact h1, by simpa [trL_map] using h2, fun i a ha => ?_⟩
    rw [trL_map, List.getElem?_map, Option.map_eq_some_iff] at ha
    obtain ⟨a0, h4, rfl⟩ := ha
    obtain ⟨v, hv, h1v, hrv⟩ := h3 i a0 h4
    exact ⟨v, hv, h1v, hrv.tr hS (fun h' => ho (by simp only [Obj.isOld]; exact isOldL_mem h4 h')) fun j hj => hid j (by simp only [Obj.refs]; exact mem_refsL h4 hj)⟩
  | row ety sz old fr l =>
    obtain ⟨arr, h1, h2, h3, h4, h5, h6, h7, h8, h9, h10⟩ := hr
    refine ⟨arr, by rw [hp, hb]; exact h1, by rw [hk]; exact h2, by rw [hk]; exact h3, by rw [hk]; exact h4, h5, h6, h7, fun i k e c hi hc => ?_, fun hf j hj => ?_, fun hg => ?_⟩
    · obtain ⟨v, hv, hrv⟩ := h8 i k e c hi hc
      exact ⟨v, hv, hrv.mono fun b q hh => hS old b q (fun h' => ho h') hh⟩
    · rw [hp]
      exact (hS old _ _ (fun h' => ho h') (h9 hf j hj)).1
    · rw [hp]
      exact hB _ _ _ _ _ rfl hg

end Go.Ev
