/-
  The operations that make new rows.
-/
import Derived.Test.YtebiajdkgpcidaaEvOps4
set_option linter.unusedSimpArgs false
set_option linter.unusedVariables false
namespace Go.Ev
section
variable {P : Program} {G : Cf} {x : Cx} {st : St} {a : Act}

theorem sh_le {b o : Nat} {p q : Bool} (h : x.sh p b o) (hq : p = true → q = true) : x.sh q b o := ⟨h.1, h.2.imp hq id⟩

theorem Rep.le {c : C} {v : Value} {p q : Bool} (hr : Rep x.w (x.sh p) c v) (hq : p = true → q = true) : Rep x.w (x.sh q) c v := hr.mono fun _ _ h => ⟨sh_le h hq, rfl⟩

theorem Rep.cOf {S : Nat → Nat → Prop} {w : World} {v : Value} (h : v.oneCell' = true) : Rep w S (cOf v) v := by
  unfold Ev.cOf
  split
  · exact .nil none 0 fun _ => rfl
  · exact .sc _ h

/-- A cell as data. -/
theorem toC_rel {h : Heap} {v : AV} {u : Value} {c : C} (hr : RelV x h v u) (hc : v.toC = some c) : Rep x.w (x.sh v.isOld) c u := by
  cases v <;> simp only [AV.toC] at hc <;> try (simp at hc; done)
  · split at hc
    · rename_i ho
      injection hc with hc
      subst hc
      rw [hr.s_inv]
      exact .sc _ ho
    · simp at hc
  · injection hc with hc
    subst hc
    cases hr with
    | sl old l v hr => exact hr
  · injection hc with hc
    subst hc
    rw [hr.nilsl_inv]
    exact .nil none 0 fun _ => rfl

theorem toCs_rel {h : Heap} : ∀ {l : List AV} {vs : List Value} {cs : List C}, l.length = vs.length → (∀ (i : Nat) (a : AV) (v : Value), l[i]? = some a → vs[i]? = some v → RelV x h a v) → toCs l = some cs →
    cs.length = vs.length ∧ ∀ (k : Nat) (c : C), cs[k]? = some c → ∃ v, vs[k]? = some v ∧ Rep x.w (x.sh (isOldL l)) c v
  | [], vs, cs, hl, _, hc => by
    simp only [toCs, Option.some.injEq] at hc
    subst hc
    exact ⟨hl, fun k c h => by simp at h⟩
  | b :: l, vs, cs, hl, hr, hc => by
    cases vs with
    | nil => simp at hl
    | cons v vs =>
      simp only [toCs] at hc
      split at hc
      · rename_i c r h1 h2
        injection hc with hc
        subst hc
        obtain ⟨h3, h4⟩ := toCs_rel (l := l) (vs := vs) (by simpa using hl) (fun i a v h5 h6 => hr (i + 1) a v (by simpa using h5) (by simpa using h6)) h2
        refine ⟨by simp [h3], fun k c' hk => ?_⟩
        cases k with
        | zero =>
          simp only [List.getElem?_cons_zero, Option.some.injEq] at hk
          subst hk
          exact ⟨v, rfl, (toC_rel (hr 0 b v rfl rfl) h1).le fun h => by simp [isOldL, h]⟩
        | succ k =>
          obtain ⟨v', h5, h6⟩ := h4 k c' (by simpa using hk)
          exact ⟨v', by simpa using h5, h6.le fun h => by simp [isOldL, h]⟩
      · simp at hc

/-- Elements in a row of cells. -/
structure RowIs (x : Cx) (old : Bool) (sz : Nat) (l : List (List C)) (arr : List Value) : Prop where
  size : arr.length = l.length * sz
  els : ∀ e ∈ l, e.length = sz
  one : ∀ v ∈ arr, v.oneCell' = true
  rep : ∀ (i k : Nat) (e : List C) (c : C), l[i]? = some e → e[k]? = some c → ∃ v, arr[i * sz + k]? = some v ∧ Rep x.w (x.sh old) c v

theorem RowIs.le {p q : Bool} {sz : Nat} {l : List (List C)} {arr : List Value} (h : RowIs x p sz l arr) (hq : p = true → q = true) : RowIs x q sz l arr :=
  ⟨h.size, h.els, h.one, fun i k e c h1 h2 => let ⟨v, h3, h4⟩ := h.rep i k e c h1 h2; ⟨v, h3, h4.le hq⟩⟩

theorem RowIs.set {old : Bool} {sz i : Nat} {l : List (List C)} {arr us : List Value} {e : List C} (h : RowIs x old sz l arr) (hi : i < l.length) (he : e.length = sz) (hu : us.length = sz) (ho : ∀ v ∈ us, v.oneCell' = true)
    (hr : ∀ (k : Nat) (c : C), e[k]? = some c → ∃ v, us[k]? = some v ∧ Rep x.w (x.sh old) c v) : RowIs x old sz (l.set i e) (arr.take (i * sz) ++ us ++ arr.drop (i * sz + us.length)) := by
  have hm : (i + 1) * sz ≤ arr.length := by rw [h.size]; exact Nat.mul_le_mul_right _ hi
  rw [Nat.add_mul, Nat.one_mul] at hm
  have hsz := h.size
  refine ⟨by simp only [List.length_append, List.length_take, List.length_drop, List.length_set]; omega, fun f hf => ?_, fun v hv => ?_, fun j k f c h1 h2 => ?_⟩
  · rcases List.mem_or_eq_of_mem_set hf with hf | hf
    · exact h.els f hf
    · rw [hf]; exact he
  · simp only [List.mem_append] at hv
    rcases hv with (hv | hv) | hv
    · exact h.one v (List.mem_of_mem_take hv)
    · exact ho v hv
    · exact h.one v (List.mem_of_mem_drop hv)
  · by_cases hij : i = j
    · subst hij
      rw [List.getElem?_set_self hi] at h1
      injection h1 with h1
      subst h1
      obtain ⟨v, h3, h4⟩ := hr k c h2
      refine ⟨v, ?_, h4⟩
      have hk : k < us.length := (List.getElem?_eq_some_iff.1 h3).1
      rw [List.append_assoc, List.getElem?_append_right (by simp; omega), List.getElem?_append_left (by simp; omega)]
      have : (arr.take (i * sz)).length = i * sz := by simp; omega
      rw [this]
      rw [show i * sz + k - i * sz = k by omega]
      exact h3
    · rw [List.getElem?_set_ne hij] at h1
      obtain ⟨v, h3, h4⟩ := h.rep j k f c h1 h2
      refine ⟨v, ?_, h4⟩
      have hk : k < sz := by
        have := (List.getElem?_eq_some_iff.1 h2).1
        rw [h.els f (List.mem_of_getElem? h1)] at this
        exact this
      rcases Nat.lt_or_gt_of_ne hij with hlt | hgt
      · have hm2 : (i + 1) * sz ≤ j * sz := Nat.mul_le_mul_right _ hlt
        rw [Nat.add_mul, Nat.one_mul] at hm2
        rw [List.getElem?_append_right (by simp; omega)]
        have : (arr.take (i * sz) ++ us).length = i * sz + us.length := by simp; omega
        rw [this, List.getElem?_drop, show i * sz + us.length + (j * sz + k - (i * sz + us.length)) = j * sz + k by omega]
        exact h3
      · have hm2 : (j + 1) * sz ≤ i * sz := Nat.mul_le_mul_right _ hgt
        rw [Nat.add_mul, Nat.one_mul] at hm2
        rw [List.append_assoc, List.getElem?_append_left (by simp; omega), List.getElem?_take, if_pos (by omega)]
        exact h3

/-- Elements of a literal. -/
def trPartsE : List (Nat × Operand) → List (Nat × O) := List.map fun p => (p.1, trO p.2)

theorem fillE_rel (hs : RelS G x st a) {sz n : Nat} : ∀ (parts : List (Nat × Operand)) (qs : List (Nat × List C)) (l : List (List C)) (arr : List Value) (old : Bool), partsE G st.t sz n (trPartsE parts) = some qs → l.length = n → RowIs x old sz l arr →
    (isOldParts G st.t (trPartsE parts) = true → old = true) →
    ∃ us : List Value, Instr.fill (fun i => some (i * sz, sz)) arr.toArray (parts.map fun p => (p.1, a.eval p.2)) = some us.toArray ∧ RowIs x old sz (fillE l qs) us ∧ (fillE l qs).length = n
  | [], qs, l, arr, old, h1, h2, h3, _ => by
    simp only [trPartsE, List.map_nil, partsE, Option.some.injEq] at h1
    subst h1
    exact ⟨arr, rfl, h3, h2⟩
  | (i, y) :: r, qs, l, arr, old, h1, h2, h3, h4 => by
    simp only [trPartsE, List.map_cons, partsE] at h1
    split at h1
    · rename_i qs' e hq hcs
      split at h1
      · rename_i hc
        injection h1 with h1
        subst h1
        have hok : ∀ {l : List AV} {cs : List C}, toCs l = some cs → l.all AV.cellOk = true := by
          intro l
          induction l with
          | nil => intro _ _; rfl
          | cons b l ih =>
            intro cs h
            simp only [toCs] at h
            split at h
            · rename_i c r' h5 h6
              have hb : b.cellOk = true := by
                cases b <;> simp only [AV.toC] at h5 <;> first
                  | (simp at h5; done)
                  | rfl
                  | (split at h5
                     · simpa [AV.cellOk]
                     · simp at h5)
              simp [hb, ih h6]
            · simp at h
        obtain ⟨us, hu, hcell⟩ := cells_rel (hs.opd y) (hok hcs)
        obtain ⟨h5, h6⟩ := toCs_rel hcell.len hcell.rel hcs
        have hold : isOldL (rho G st.t (trO y)).cells = true → old = true := fun h => h4 (by
          simp only [trPartsE, List.map_cons, isOldParts, Bool.or_eq_true]
          left
          revert h
          generalize rho G st.t (trO y) = q
          cases q <;> simp [AV.cells, isOldL, AV.isOld])
        have hul : us.length = sz := by rw [← h5]; exact hc.1
        have h7 := h3.set (i := i) (e := e) (us := us) (by omega) hc.1 hul hcell.one fun k c hk => by
          obtain ⟨v, h8, h9⟩ := h6 k c hk
          exact ⟨v, h8, h9.le hold⟩
        obtain ⟨vs', h8, h9, h10⟩ := fillE_rel hs r qs' (l.set i e) _ old hq (by simpa using h2) h7 (fun h => h4 (by simp only [trPartsE, List.map_cons, isOldParts, Bool.or_eq_true]; exact .inr h))
        have hm : (i + 1) * sz ≤ arr.length := by rw [h3.size, h2]; exact Nat.mul_le_mul_right _ (by omega)
        rw [Nat.add_mul, Nat.one_mul] at hm
        exact ⟨vs', by rw [List.map_cons, fill_one rfl hu hul hm]; exact h8, h9, h10⟩
      · simp at h1
    · simp at h1

theorem madeCells_get {z : Array Value} {n sz j : Nat} (hz : z.size = sz) (hj : j < n * sz) : (madeCells z (n * sz))[j]? = z[j % sz]? := by
  have hpos : 0 < sz := by
    rcases Nat.eq_zero_or_pos sz with h | h
    · rw [h] at hj; simp at hj
    · exact h
  have hlt : j % z.size < z.size := by rw [hz]; exact Nat.mod_lt _ hpos
  have : (madeCells z (n * sz))[j]? = some (z[j % z.size]!) := by simp [madeCells, hj]
  rw [this, hz]
  rw [hz] at hlt
  have hlt' : j % sz < z.size := by omega
  simp [hlt']

theorem rowIs_zero {zs : List Value} {z : Array Value} {sz n : Nat} {old : Bool} (hz : z.toList = zs) (ho : zs.all Value.oneCell' = true) (hs : zs.length = sz) : RowIs x old sz (List.replicate n (zs.map cOf)) (madeCells z (n * sz)).toList := by
  have hzs : z.size = sz := by rw [← hs, ← hz]; simp
  refine ⟨by simp [size_madeCells], fun e he => by rw [List.eq_of_mem_replicate he]; simpa using hs, fun v hv => ?_, fun i k e c h1 h2 => ?_⟩
  · obtain ⟨j, hj, hv'⟩ := List.mem_iff_getElem.1 hv
    have hj' : j < n * sz := by simpa [size_madeCells] using hj
    have := madeCells_get hzs hj'
    have h2 : (madeCells z (n * sz))[j]? = some v := by
      rw [← Array.getElem?_toList, List.getElem?_eq_getElem hj, hv']
    rw [h2] at this
    have hm : v ∈ zs := by
      rw [← hz]
      exact Array.mem_toList_iff.2 (Array.mem_of_getElem? this.symm)
    exact List.all_eq_true.1 ho v hm
  · rw [List.getElem?_replicate] at h1
    split at h1
    · rename_i hi
      injection h1 with h1
      subst h1
      simp only [List.getElem?_map, Option.map_eq_some_iff] at h2
      obtain ⟨v, hv, rfl⟩ := h2
      have hk : k < sz := by rw [← hs]; exact (List.getElem?_eq_some_iff.1 hv).1
      have hm : (i + 1) * sz ≤ n * sz := Nat.mul_le_mul_right _ hi
      rw [Nat.add_mul, Nat.one_mul] at hm
      refine ⟨v, ?_, Rep.cOf (List.all_eq_true.1 ho v (List.mem_of_getElem? hv))⟩
      rw [Array.getElem?_toList, madeCells_get hzs (by omega)]
      rw [Nat.mul_comm i sz, Nat.mul_add_mod, Nat.mod_eq_of_lt hk]
      rw [← hz] at hv
      simpa using hv
    · simp at h1

/-- A new row. -/
theorem OpOk.mkrow {o : Oper} {h h' : Heap} {s n sz : Nat} {old : Bool} {l : List (List C)} {arr : List Value} {e : TypeId} {w' : World} (hi : Inv G x h) (hB : x.B0 ≤ x.w.heap.size) (ha : alloc [(s, .row e sz old false l)] h = some h') (hpos : 0 < sz) (hmax : n ≤ maxLen) (hl : l.length = n)
    (hr : (execOp a.eval o).run P x.w = .ok (.value (.slice (some ⟨x.w.heap.size, 0, none⟩) n n)) w') (hm : Made x.w w' arr.toArray e (0, 0)) (hrow : RowIs x old sz l arr) :
    OpOk P o a G x h (.row s n) h' := fun K Q hK => by
  obtain ⟨hs, rfl⟩ := alloc1 ha
  have hlt : s < h.length := (List.getElem?_eq_some_iff.1 hs).1
  have hst := Step.make (h := h) (cap := n) (o := .row e sz old false l) hm hi.sh hs
  have hinv : Inv G (x.make w' s n) (h.set s (some (.row e sz old false l))) := by
    refine hi.make hm hs ⟨arr.toArray, ?_, ?_, ?_, ?_, hpos, hrow.els, fun v hv => hrow.one v (by simpa using hv), fun i k e c h1 h2 => ?_, fun h => by simp at h, fun _ => by simpa [Cx.make] using hB⟩ (by simp [Obj.refs])
    · simpa [Cx.make] using hm.new
    · simp [Cx.make, hrow.size, hl]
    · simp [Cx.make, hl]
    · simpa [Cx.make] using hmax
    · obtain ⟨v, h3, h4⟩ := hrow.rep i k e c h1 h2
      exact ⟨v, by simpa using h3, h4.mono (hst.ext.sh old)⟩
  unfold Oper.wp
  rw [hr]
  refine hK (x.make w' s n) _ hinv hst (.row s n _ trivial (fun e' s' o' f' l' hg => ?_) fun e' s' o' f' l' hg _ => by simp [Cx.make]) fun id hid => ?_
  · rw [getO_set hlt, if_pos rfl] at hg
    injection hg with hg
    injection hg with _ _ _ _ h5
    subst h5
    omega
  · simp only [AV.refs, List.mem_singleton] at hid
    subst hid
    rw [getO_set hlt, if_pos rfl]
    rfl

/-- New cells that nobody will write, as a slice. -/
theorem OpOk.mkdata {o : Oper} {h : Heap} {n cap sz : Nat} {old : Bool} {l : List (List C)} {arr : List Value} {e : TypeId} {fr : Nat × Nat} {w' : World} (hi : Inv G x h) (hB : x.B0 ≤ x.w.heap.size) (hl : l.length = n) (hcap : n ≤ cap)
    (hr : (execOp a.eval o).run P x.w = .ok (.value (.slice (some ⟨x.w.heap.size, 0, none⟩) n cap)) w') {full : Array Value} (hm : Made x.w w' full e fr) (hfull : ∀ (j : Nat) (v : Value), arr[j]? = some v → full[j]? = some v) (hrow : RowIs x old sz l arr) :
    OpOk P o a G x h (.sl old l) h := fun K Q hK => by
  have hst := Step.lay (h := h) hm hi.sh (n * sz)
  unfold Oper.wp
  rw [hr]
  refine hK (x.lay w' (n * sz)) _ (hi.lay hm _) hst (.sl old l _ ?_) (by simp [AV.refs])
  subst hl
  by_cases hne : l = []
  · subst hne
    exact .nil _ _ (by simp)
  · refine .sl l sz x.w.heap.size 0 cap (fun j => arr.getD j undef) hne hrow.els hcap (fun j hj => ⟨⟨.inr ⟨rfl, by omega⟩, .inr hB⟩, ?_⟩) fun i k e c h1 h2 => ?_
    · have hj' : j < arr.length := by rw [hrow.size]; exact hj
      rw [Nat.zero_add]
      refine (hm.cellNew j).trans ?_
      rw [hfull j _ (List.getElem?_eq_getElem hj')]
      simp [List.getD, hj']
    · obtain ⟨v, h3, h4⟩ := hrow.rep i k e c h1 h2
      have := h4.mono (hst.ext.sh old)
      simpa [List.getD, h3] using this

theorem buildSlice_run {t e : TypeId} {zs us : List Value} {n sz : Nat} {parts : List (Nat × Value)} {w : World} (h1 : P.underlying t = some (.slice e)) (hz : TZero P e zs) (h2 : TSize P e sz) (hle : n * sz ≤ 2 ^ 24)
    (hf : ∀ z : Array Value, z.toList = zs → Instr.fill (fun i => some (i * sz, sz)) (madeCells z (n * sz)) parts = some us.toArray) :
    (Instr.buildSlice t n parts.toArray).run P w = .ok (.slice (some ⟨w.heap.size, 0, none⟩) n n) (w.alloc (.cells us.toArray e)) := by
  obtain ⟨i, z, h3, h4, h5, h6⟩ := hz
  have hz' : (zeroValue e).run P w = .ok z w := by simp [zeroValue, typeInfo, h3, h4]
  simp only [Instr.buildSlice, Sem.run_bind, run_underlying h1, Result.andThen_ok, sizeOf_run h2]
  rw [if_neg (by omega)]
  by_cases h0 : n * sz = 0
  · have := hf z.cells h5
    rw [h0] at this
    simp only [h0, if_true]
    have e0 : madeCells z.cells 0 = #[] := by simp [madeCells, Array.range_zero']
    rw [e0] at this
    simp [this, newRow, Array.range_zero']
  · have := hf z.cells h5
    simp only [h0, if_false, hz', Sem.run_pure, Sem.run_bind, Result.andThen_ok]
    unfold madeCells at this
    simp [this, newRow]

theorem lit_ok {o : Oper} {t e : TypeId} {parts : Array (Nat × Operand)} {zs : List Value} {s n sz : Nat} {h' : Heap} (ho : o.op = .buildSlice t n parts) (h1 : P.underlying t = some (.slice e)) (hz : TZero P e zs) (h2 : TSize P e sz) (hlen : zs.length = sz) (hpos : 0 < sz) (hle : n * sz ≤ 2 ^ 24)
    (hs : RelS G x st a) {qs : List (Nat × List C)} (hq : partsE G st.t sz n (trPartsE parts.toList) = some qs)
    (ha : alloc [(s, .row e sz (isOldParts G st.t (trPartsE parts.toList)) false (fillE (List.replicate n (zs.map cOf)) qs))] st.h = some h') : OpOk P o a G x st.h (.row s n) h' := by
  obtain ⟨i, z, h3, h4, h5, h6⟩ := hz
  obtain ⟨us, hu, hrow, hl⟩ := fillE_rel hs parts.toList qs _ (madeCells z.cells (n * sz)).toList (isOldParts G st.t (trPartsE parts.toList)) hq (by simp) (rowIs_zero h5 h6 hlen) id
  have hn : n ≤ maxLen := by
    have : n * 1 ≤ n * sz := Nat.mul_le_mul_left _ hpos
    simp only [maxLen]; omega
  refine OpOk.mkrow (e := e) (w' := x.w.alloc (.cells us.toArray e)) hs.inv hs.b0 ha hpos hn hl ?_ (made_alloc _ _ _) hrow
  simp only [execOp, ho, Sem.run_bind]
  have := buildSlice_run (P := P) (w := x.w) (us := us) (parts := parts.toList.map fun p => (p.1, a.eval p.2)) h1 ⟨i, z, h3, h4, h5, h6⟩ h2 hle fun z' hz' => by
    have : z' = z.cells := by apply Array.ext'; rw [hz', h5]
    subst this
    simpa using hu
  have e1 : (parts.map fun x => (x.1, a.eval x.2)) = (parts.toList.map fun p => (p.1, a.eval p.2)).toArray := by apply Array.ext'; simp
  rw [e1, this]
  rfl

theorem litd_ok {o : Oper} {t e : TypeId} {parts : Array (Nat × Operand)} {zs : List Value} {n sz : Nat} (ho : o.op = .buildSlice t n parts) (h1 : P.underlying t = some (.slice e)) (hz : TZero P e zs) (h2 : TSize P e sz) (hlen : zs.length = sz) (hle : n * sz ≤ 2 ^ 24)
    (hs : RelS G x st a) {qs : List (Nat × List C)} (hq : partsE G st.t sz n (trPartsE parts.toList) = some qs) : OpOk P o a G x st.h (.sl (isOldParts G st.t (trPartsE parts.toList)) (fillE (List.replicate n (zs.map cOf)) qs)) st.h := by
  obtain ⟨i, z, h3, h4, h5, h6⟩ := hz
  obtain ⟨us, hu, hrow, hl⟩ := fillE_rel hs parts.toList qs _ (madeCells z.cells (n * sz)).toList (isOldParts G st.t (trPartsE parts.toList)) hq (by simp) (rowIs_zero h5 h6 hlen) id
  refine OpOk.mkdata (e := e) (w' := x.w.alloc (.cells us.toArray e)) hs.inv hs.b0 hl (Nat.le_refl _) ?_ (made_alloc _ _ _) (fun j v hv => by simpa using hv) hrow
  simp only [execOp, ho, Sem.run_bind]
  have := buildSlice_run (P := P) (w := x.w) (us := us) (parts := parts.toList.map fun p => (p.1, a.eval p.2)) h1 ⟨i, z, h3, h4, h5, h6⟩ h2 hle fun z' hz' => by
    have : z' = z.cells := by apply Array.ext'; rw [hz', h5]
    subst this
    simpa using hu
  have e1 : (parts.map fun x => (x.1, a.eval x.2)) = (parts.toList.map fun p => (p.1, a.eval p.2)).toArray := by apply Array.ext'; simp
  rw [e1, this]
  rfl

theorem make_ok {o : Oper} {t e : TypeId} {y z : Operand} {zs : List Value} {s sz bytes : Nat} {h' : Heap} (ho : o.op = .makeSlice t y z) (h1 : P.underlying t = some (.slice e)) (hz : TZero P e zs) (h2 : TSize P e sz) (hby : (P.info? e).map (·.bytes) = some bytes) (hlen : zs.length = sz) (hpos : 0 < sz)
    (hs : RelS G x st a) {n : Int} (hy : rho G st.t (trO y) = .s (.int .i64 n)) (hz' : rho G st.t (trO z) = .s (.int .i64 n)) (h0 : 0 ≤ n) (hb : n * bytes ≤ 140737488355328) (hmax : n ≤ 140737488355328)
    (ha : alloc [(s, .row e sz false false (List.replicate n.toNat (zs.map cOf)))] st.h = some h') : OpOk P o a G x st.h (.row s n.toNat) h' := by
  obtain ⟨i, zv, h3, h4, h5, h6⟩ := hz
  have hr1 := hs.opd y
  have hr2 := hs.opd z
  rw [hy] at hr1
  rw [hz'] at hr2
  obtain ⟨i', hi', hs'⟩ := Option.map_eq_some_iff.1 h2
  rw [h3] at hi'
  injection hi' with hi'
  subst hi'
  obtain ⟨i', hi', hb'⟩ := Option.map_eq_some_iff.1 hby
  rw [h3] at hi'
  injection hi' with hi'
  subst hi'
  have hrun := run_make (P := P) x.w t e i zv h1 h3 h4 .i64 .i64 n n h0 (Int.le_refl _) (by rw [hb', Int.mul_comm]; omega) (by omega)
  rw [hs'] at hrun
  have hn : n.toNat ≤ maxLen := by simp only [maxLen]; omega
  refine OpOk.mkrow (e := e) (arr := (madeCells zv.cells (n.toNat * sz)).toList) hs.inv hs.b0 ha hpos hn (by simp) ?_ (by simpa using made_alloc _ _ _) (rowIs_zero h5 h6 hlen)
  simp only [execOp, ho, Sem.run_bind, hr1.s_inv, hr2.s_inv, hrun]
  rfl

theorem eB_length (l : List UInt8) : (eB l).length = l.length := by simp [eB]

theorem rowIs_bytes {old : Bool} (l : List UInt8) : RowIs x old 1 (eB l) (l.map fun b => Value.int .u8 (b.toNat : Int)) := by
  refine ⟨by simp [eB], fun e he => ?_, fun v hv => ?_, fun i k e c h1 h2 => ?_⟩
  · obtain ⟨b, _, rfl⟩ := List.mem_map.1 he
    rfl
  · obtain ⟨b, _, rfl⟩ := List.mem_map.1 hv
    rfl
  · simp only [eB, List.getElem?_map, Option.map_eq_some_iff] at h1
    obtain ⟨b, hb, rfl⟩ := h1
    cases k with
    | zero =>
      simp at h2
      subst h2
      exact ⟨.int .u8 (b.toNat : Int), by simp [hb], .sc _ rfl⟩
    | succ k => simp at h2

theorem freeze_push (w : World) (arr : Array Value) (e : TypeId) (n : Nat) : Made w ((w.alloc (.cells arr e)).freeze ⟨w.heap.size, n, none⟩ 1) arr e (n, n + 1) := by
  refine ⟨?_, rfl, rfl, rfl⟩
  simp only [World.freeze]
  rw [if_neg (by simp)]
  have hp : (w.alloc (.cells arr e)).heap = w.heap.push (.cells arr e) := rfl
  apply Array.ext
  · simp
  · intro i h4 h5
    simp only [hp, Array.getElem_modify]
    by_cases hi : w.heap.size = i
    · subst hi
      simp
    · have h6 : i < w.heap.size := by
        simp at h5
        omega
      rw [if_neg hi, Array.getElem_push_lt h6, Array.getElem_push_lt h6]

theorem stringToBytes_run (w : World) (e : TypeId) (s : ByteArray) : ∃ (full : Array Value) (cap : Nat) (fr : Nat × Nat) (w' : World), (Conv.stringToBytes e s).run P w = .ok (.slice (some ⟨w.heap.size, 0, none⟩) s.size cap) w' ∧ Made w w' full e fr ∧ s.size ≤ cap ∧
    ∀ (j : Nat) (v : Value), (s.data.toList.map fun b => Value.int .u8 (b.toNat : Int))[j]? = some v → full[j]? = some v := by
  have hcap : s.size ≤ (Question.appendCap s.size 0 e).cut (w.tape w.drawn (.appendCap s.size 0 e)) := by simp [Question.cut]
  generalize hq : (Question.appendCap s.size 0 e).cut (w.tape w.drawn (.appendCap s.size 0 e)) = cap at hcap
  generalize hf : ((s.data.map fun b => Value.int .u8 (b.toNat : Int)) ++ Array.replicate (cap - s.size) (.int .u8 0) : Array Value) = full
  have hm := freeze_push w.drew full e full.size
  refine ⟨full, cap, (full.size, full.size + 1), _, ?_, ⟨hm.heap, hm.os, hm.tape, hm.output⟩, hcap, fun j v hv => ?_⟩
  · have h1 : (choose (.appendCap s.size 0 e)).run P w = .ok cap w.drew := by
      rw [run_choose, ← hq]
      rfl
    have hsh : (w.drew.alloc (.cells full e)).shape? w.heap.size = some (e, full.size) := by
      have := heap_alloc_new w.drew (.cells full e)
      simp only [World.size_drew] at this
      unfold World.shape?
      rw [this]
    simp only [Conv.stringToBytes, Sem.run_bind, h1, Result.andThen_ok, hf, newRow, run_newObj, Sem.run_pure, markStringish, run_shape, World.alloc_eq, World.size_drew, hsh, run_freeze]
  · have hj := (List.getElem?_eq_some_iff.1 hv).1
    simp at hj
    rw [← hf, Array.getElem?_append_left (by simpa using hj)]
    simpa using hv

theorem s2b_ok {o : Oper} {y : Operand} {src dst e : TypeId} (ho : o.op = .convert src dst y) (h1 : P.underlying src = some .string) (h2 : P.underlying dst = some (.slice e)) (h3 : P.underlying e = some (.int .u8)) (hs : RelS G x st a) {s : ByteArray}
    (hq : rho G st.t (trO y) = .s (.string s)) : OpOk P o a G x st.h (.sl false (eB s.data.toList)) st.h := by
  have hr := hs.opd y
  rw [hq] at hr
  obtain ⟨full, cap, fr, w', hrun, hm, hcap, hfull⟩ := stringToBytes_run (P := P) x.w e s
  refine OpOk.mkdata (sz := 1) (e := e) (n := s.size) (cap := cap) (full := full) (fr := fr) (w' := w') (arr := s.data.toList.map fun b => Value.int .u8 (b.toNat : Int)) hs.inv hs.b0 (by rw [eB_length, Array.length_toList]; rfl) hcap ?_ hm hfull (rowIs_bytes _)
  simp only [execOp, ho, Sem.run_bind, convert, run_underlying h1, run_underlying h2, run_underlying h3, Result.andThen_ok, hr.s_inv, hrun]
  rfl

end
end Go.Ev
