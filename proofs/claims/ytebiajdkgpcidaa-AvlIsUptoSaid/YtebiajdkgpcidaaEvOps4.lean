/-
  The operations that make new memory.
-/
import Derived.Test.YtebiajdkgpcidaaEvOps3
import Derived.Laws.MakeOwn
set_option linter.unusedSimpArgs false
set_option linter.unusedVariables false
namespace Go.Ev
section
variable {P : Program} {G : Cf} {x : Cx} {st : St} {a : Act}

def TZero (P : Program) (t : TypeId) (zs : List Value) : Prop := ∃ i z, P.info? t = some i ∧ i.zero = some z ∧ z.cells.toList = zs ∧ zs.all Value.oneCell' = true

theorem cellOk_one {h : Heap} {v : AV} {u : Value} (hr : RelV x h v u) (hc : v.cellOk = true) : u.oneCell' = true := by
  cases hr with
  | undef v => simp [AV.cellOk] at hc
  | s v => simpa [AV.cellOk] using hc
  | sl old l v hr => exact hr.one
  | nilsl => rfl
  | esl a cap => rfl
  | row id n v hv hle hr =>
    cases u <;> simp only [Value.isSlice] at hv
    rfl
  | ptr id off v hv hr =>
    obtain ⟨p, rfl⟩ := isPtr_some hv
    rfl
  | eptr id n i k v hv hle hr =>
    obtain ⟨p, rfl⟩ := isPtr_some hv
    rfl
  | daddr old l b o vals hc hr => rfl
  | agg l vs hl hr => simp [AV.cellOk] at hc
  | tup l vs hl hr => simp [AV.cellOk] at hc
  | ifc t a v hr => rfl
  | clos f l vs hl hr => rfl

/-- A value's cells, and what they stand for. -/
structure CellsAt (x : Cx) (h : Heap) (l : List AV) (vs : List Value) : Prop where
  len : l.length = vs.length
  rel : ∀ (i : Nat) (a : AV) (v : Value), l[i]? = some a → vs[i]? = some v → RelV x h a v
  one : ∀ v ∈ vs, v.oneCell' = true

theorem cells_rel {h : Heap} {v : AV} {u : Value} (hr : RelV x h v u) (hc : v.cells.all AV.cellOk = true) : ∃ vs : List Value, u.cells = vs.toArray ∧ CellsAt x h v.cells vs := by
  by_cases hagg : ∃ l, v = .agg l
  · obtain ⟨l, rfl⟩ := hagg
    obtain ⟨vs, rfl, hl, hrel⟩ := hr.agg_inv
    simp only [AV.cells] at hc ⊢
    refine ⟨vs, rfl, hl, hrel, fun w hw => ?_⟩
    obtain ⟨i, hi, rfl⟩ := List.mem_iff_getElem.1 hw
    have hi' : i < l.length := hl ▸ hi
    exact cellOk_one (hrel i _ _ (List.getElem?_eq_getElem hi') (List.getElem?_eq_getElem hi)) (List.all_eq_true.1 hc _ (List.getElem_mem hi'))
  · have h1 : v.cells = [v] := by
      cases v <;> first
        | rfl
        | exact absurd ⟨_, rfl⟩ hagg
    rw [h1] at hc ⊢
    have hone := cellOk_one hr (by simpa using hc)
    refine ⟨[u], ?_, rfl, fun i b w h2 h3 => ?_, by simpa using hone⟩
    · cases u <;> first
        | rfl
        | (simp [Value.oneCell'] at hone; done)
    · cases i with
      | zero => simp at h2 h3; subst h2 h3; exact hr
      | succ i => simp at h2

theorem cells_refs {v : AV} {id : Nat} (h : id ∈ refsL v.cells) : id ∈ v.refs := by
  cases v <;> simp_all [AV.cells, refsL, AV.refs]

theorem alloc1 {s : Nat} {o : Obj} {h h' : Heap} (ha : alloc [(s, o)] h = some h') : h[s]? = some none ∧ h' = h.set s (some o) := by
  simp only [alloc] at ha
  split at ha
  · rename_i hs
    injection ha with ha
    exact ⟨hs, ha.symm⟩
  · simp at ha

/-- A new variable. -/
theorem OpOk.var {o : Oper} {h h' : Heap} {s : Nat} {l : List AV} {vs : List Value} {e : TypeId} {w' : World} (hi : Inv G x h) (ha : alloc [(s, .var l)] h = some h')
    (hr : (execOp a.eval o).run P x.w = .ok (.value (.pointer (some ⟨x.w.heap.size, 0, none⟩))) w') (hm : Made x.w w' vs.toArray e (0, 0)) (hc : CellsAt x h l vs) (hl : ∀ id ∈ refsL l, (getO h id).isSome) :
    OpOk P o a G x h (.ptr s 0) h' := fun K Q hK => by
  obtain ⟨hs, rfl⟩ := alloc1 ha
  have hlt : s < h.length := (List.getElem?_eq_some_iff.1 hs).1
  have hst := Step.make (h := h) (cap := 0) (o := .var l) hm hi.sh hs
  have hlive : ∀ j ∈ refsL l, (getO (h.set s (some (.var l))) j).isSome := fun j hj => (hst.evo j trivial (hl j hj)).2
  have hinv : Inv G (x.make w' s 0) (h.set s (some (.var l))) := by
    refine hi.make hm hs ⟨vs.toArray, e, ?_, by simp [hc.len], fun i b hb => ?_⟩ hlive
    · simpa [Cx.make] using hm.new
    · have hi' : i < vs.length := hc.len ▸ (List.getElem?_eq_some_iff.1 hb).1
      refine ⟨vs[i], by simp [hi'], hc.one _ (List.getElem_mem hi'), ?_⟩
      exact (hc.rel i b _ hb (List.getElem?_eq_getElem hi')).step hst fun id hid => ⟨trivial, hl id (mem_refsL hb hid)⟩
  unfold Oper.wp
  rw [hr]
  refine hK (x.make w' s 0) _ hinv hst (.ptr s 0 _ trivial fun cs _ => by simp [Cx.make]) fun id hid => ?_
  simp only [AV.refs, List.mem_singleton] at hid
  subst hid
  rw [getO_set hlt, if_pos rfl]
  rfl

theorem made_alloc (w : World) (arr : Array Value) (e : TypeId) : Made w (w.alloc (.cells arr e)) arr e (0, 0) := ⟨rfl, rfl, rfl, rfl⟩

theorem new_ok {o : Oper} {t : TypeId} {zs : List Value} {s : Nat} {h' : Heap} (ho : o.op = .alloc t) (hz : TZero P t zs) (hs : RelS G x st a) (ha : alloc [(s, .var (zs.map ofV1))] st.h = some h') : OpOk P o a G x st.h (.ptr s 0) h' := by
  obtain ⟨i, z, h1, h2, h3, h4⟩ := hz
  refine OpOk.var (vs := zs) (e := t) (w' := x.w.alloc (.cells zs.toArray t)) hs.inv ha ?_ (made_alloc _ _ _) ⟨by simp, fun i b v h5 h6 => ?_, fun v hv => List.all_eq_true.1 h4 v hv⟩ fun id hid => ?_
  · simp [execOp, ho, Instr.alloc, zeroValue, typeInfo, h1, h2, newVar, newRow, ← h3]
  · simp only [List.getElem?_map, h6, Option.map_some, Option.some.injEq] at h5
    subst h5
    exact .ofV1 _ _ _
  · rw [refsL_nil fun b hb => by obtain ⟨v, _, rfl⟩ := List.mem_map.1 hb; exact refs_ofV1 v] at hid
    simp at hid

theorem box_ok {o : Oper} {t : TypeId} {y : Operand} {s : Nat} {h' : Heap} (ho : o.op = .box t y) (hs : RelS G x st a) (hc : (rho G st.t (trO y)).cells.all AV.cellOk = true) (ha : alloc [(s, .var (rho G st.t (trO y)).cells)] st.h = some h') :
    OpOk P o a G x st.h (.ptr s 0) h' := by
  obtain ⟨vs, hv, hcells⟩ := cells_rel (hs.opd y) hc
  refine OpOk.var (e := t) (w' := x.w.alloc (.cells vs.toArray t)) hs.inv ha ?_ (made_alloc _ _ _) hcells fun id hid => hs.opdRefs y id (cells_refs hid)
  simp [execOp, ho, Instr.box, newVar, newRow, hv]

/-! ### Aggregates -/
theorem foldl_set (off : Nat) : ∀ (us : List Value) (k : Nat) (arr : Array Value), off + k + us.length ≤ arr.size →
    ((us.zipIdx k).foldl (fun cs (p : Value × Nat) => cs.setIfInBounds (off + p.2) p.1) arr).toList = arr.toList.take (off + k) ++ us ++ arr.toList.drop (off + k + us.length)
  | [], k, arr, _ => by simp
  | u :: us, k, arr, h => by
    simp only [List.length_cons] at h
    rw [List.zipIdx_cons, List.foldl_cons, foldl_set off us (k + 1) _ (by simp; omega)]
    have hk : off + k < arr.toList.length := by simp; omega
    simp only [Array.toList_setIfInBounds, List.length_cons]
    rw [List.set_eq_take_append_cons_drop, if_pos hk]
    have e1 : off + (k + 1) = off + k + 1 := by omega
    have e2 : (arr.toList.take (off + k)).length = off + k := by simp; omega
    rw [e1]
    have t1 : (List.take (off + k) arr.toList ++ u :: List.drop (off + k + 1) arr.toList).take (off + k + 1) = List.take (off + k) arr.toList ++ [u] := by
      rw [List.take_append, e2, List.take_of_length_le (by simp; omega)]
      simp
    have t2 : (List.take (off + k) arr.toList ++ u :: List.drop (off + k + 1) arr.toList).drop (off + k + 1 + us.length) = List.drop (off + k + (us.length + 1)) arr.toList := by
      rw [List.drop_append, e2]
      have : (off + k + 1 + us.length - (off + k)) = us.length + 1 := by omega
      rw [this, List.drop_eq_nil_of_le (by simp; omega)]
      simp only [List.nil_append, List.drop_succ_cons, List.drop_drop]
      congr 1
      omega
    rw [t1, t2]
    simp

theorem fill_one {place : Nat → Option (Nat × Nat)} {cells us : List Value} {i off sz : Nat} {v : Value} {rest : List (Nat × Value)} (hp : place i = some (off, sz)) (hv : v.cells = us.toArray) (hsz : us.length = sz) (hle : off + sz ≤ cells.length) :
    Instr.fill place cells.toArray ((i, v) :: rest) = Instr.fill place (cells.take off ++ us ++ cells.drop (off + us.length)).toArray rest := by
  simp only [Instr.fill, hp]
  rw [if_neg (by simp [hv, hsz]; omega)]
  congr 1
  apply Array.ext'
  have := foldl_set off us 0 cells.toArray (by simp; omega)
  rw [hv, ← Array.foldl_toList, Array.toList_zipIdx]
  simpa using this

/-- Where the parts of an aggregate go. -/
def Places (P : Program) (t : TypeId) (pl : Nat → Option (Nat × Nat)) : Prop :=
  (∃ fs : Array Field, P.underlying t = some (.struct fs) ∧ (∀ f ∈ fs.toList, (P.info? f.type).isSome) ∧ pl = fun i => (fs[i]?).map fun f => (f.offset, P.cellsOf f.type)) ∨
  (∃ n e, P.underlying t = some (.array n e) ∧ (P.info? e).isSome ∧ pl = fun i => some (i * P.cellsOf e, P.cellsOf e))

def trParts (pl : Nat → Option (Nat × Nat)) (n : Nat) : List (Nat × Operand) → Option (List (Nat × Nat × O))
  | [] => some []
  | (i, y) :: r => match pl i, trParts pl n r with
    | some (off, sz), some ps => if off + sz ≤ n then some ((off, sz, trO y) :: ps) else none
    | _, _ => none

theorem cellsAt_fill {h : Heap} {l p : List AV} {vs us : List Value} {off : Nat} (h1 : CellsAt x h l vs) (h2 : CellsAt x h p us) (hle : off + us.length ≤ vs.length) :
    CellsAt x h (l.take off ++ p ++ l.drop (off + p.length)) (vs.take off ++ us ++ vs.drop (off + us.length)) := by
  have hl := h1.len
  have hp := h2.len
  refine ⟨by simp; omega, fun i b v hb hv => ?_, fun v hv => ?_⟩
  · by_cases c1 : i < off
    · rw [List.append_assoc, List.getElem?_append_left (by simp; omega), List.getElem?_take, if_pos c1] at hb hv
      exact h1.rel i b v hb hv
    · by_cases c2 : i < off + us.length
      · rw [List.append_assoc, List.getElem?_append_right (by simp; omega), List.getElem?_append_left (by simp; omega)] at hb hv
        have e1 : (l.take off).length = off := by simp; omega
        have e2 : (vs.take off).length = off := by simp; omega
        rw [e1] at hb
        rw [e2] at hv
        exact h2.rel _ b v hb hv
      · rw [List.getElem?_append_right (by simp; omega)] at hb hv
        have e1 : (l.take off ++ p).length = off + us.length := by simp; omega
        have e2 : (vs.take off ++ us).length = off + us.length := by simp; omega
        rw [e1, List.getElem?_drop, hp] at hb
        rw [e2, List.getElem?_drop] at hv
        exact h1.rel _ b v hb hv
  · simp only [List.mem_append] at hv
    rcases hv with (hv | hv) | hv
    · exact h1.one v (List.mem_of_mem_take hv)
    · exact h2.one v hv
    · exact h1.one v (List.mem_of_mem_drop hv)

theorem fillA_rel (hs : RelS G x st a) {pl : Nat → Option (Nat × Nat)} : ∀ (parts : List (Nat × Operand)) (ps : List (Nat × Nat × O)) (qs : List (Nat × List AV)) (l : List AV) (vs : List Value), trParts pl vs.length parts = some ps → partsA G st.t ps = some qs → CellsAt x st.h l vs →
    ∃ us : List Value, Instr.fill pl vs.toArray (parts.map fun p => (p.1, a.eval p.2)) = some us.toArray ∧ CellsAt x st.h (fillA l qs) us ∧ us.length = vs.length ∧ ∀ id ∈ refsL (fillA l qs), id ∈ refsL l ∨ (getO st.h id).isSome
  | [], ps, qs, l, vs, h1, h2, h3 => by
    simp only [trParts, Option.some.injEq] at h1
    subst h1
    simp only [Ev.partsA, Option.some.injEq] at h2
    subst h2
    exact ⟨vs, rfl, h3, rfl, fun id hid => .inl hid⟩
  | (i, y) :: r, ps, qs, l, vs, h1, h2, h3 => by
    simp only [trParts] at h1
    split at h1
    · rename_i off sz ps' hp hr
      split at h1
      · rename_i hle
        injection h1 with h1
        subst h1
        simp only [Ev.partsA] at h2
        split at h2
        · rename_i qs' hq
          split at h2
          · rename_i hc
            injection h2 with h2
            subst h2
            obtain ⟨us, hu, hcell⟩ := cells_rel (hs.opd y) hc.2
            have hul : us.length = sz := by rw [← hcell.len]; exact hc.1
            have hlen : (vs.take off ++ us ++ vs.drop (off + us.length)).length = vs.length := by simp; omega
            obtain ⟨vs', h4, h5, h6, h7⟩ := fillA_rel hs r ps' qs' _ _ (hlen.symm ▸ hr) hq (cellsAt_fill h3 hcell (by omega))
            refine ⟨vs', ?_, h5, by omega, fun id hid => ?_⟩
            · rw [List.map_cons, fill_one hp hu hul hle]
              exact h4
            · rcases h7 id hid with h8 | h8
              · obtain ⟨j, b, h9, h10⟩ := mem_refsL_iff.1 h8
                have hb := List.mem_of_getElem? h9
                simp only [List.mem_append] at hb
                rcases hb with (hb | hb) | hb
                · obtain ⟨k, hk⟩ := List.getElem?_of_mem (List.mem_of_mem_take hb)
                  exact .inl (mem_refsL hk h10)
                · obtain ⟨k, hk⟩ := List.getElem?_of_mem hb
                  exact .inr (hs.opdRefs y id (cells_refs (mem_refsL hk h10)))
                · obtain ⟨k, hk⟩ := List.getElem?_of_mem (List.mem_of_mem_drop hb)
                  exact .inl (mem_refsL hk h10)
              · exact .inr h8
          · simp at h2
        · simp at h2
      · simp at h1
    · simp at h1

theorem cellsAt_zero {h : Heap} {zs : List Value} (hz : zs.all Value.oneCell' = true) : CellsAt x h (zs.map ofV1) zs :=
  ⟨by simp, fun i b v h5 h6 => by
    simp only [List.getElem?_map, h6, Option.map_some, Option.some.injEq] at h5
    subst h5
    exact .ofV1 _ _ _, fun v hv => List.all_eq_true.1 hz v hv⟩

theorem refsL_zero (zs : List Value) : refsL (zs.map ofV1) = [] := refsL_nil fun b hb => by
  obtain ⟨v, _, rfl⟩ := List.mem_map.1 hb
  exact refs_ofV1 v

theorem mapM_places {w : World} : ∀ (fs : List Field), (∀ f ∈ fs, (P.info? f.type).isSome) → (fs.mapM fun f => (do pure (f.offset, ← sizeOf f.type) : Sem (Nat × Nat))).run P w = .ok (fs.map fun f => (f.offset, P.cellsOf f.type)) w
  | [], _ => rfl
  | f :: fs, h => by
    obtain ⟨i, hi⟩ := Option.isSome_iff_exists.1 (h f (by simp))
    have ih := mapM_places (w := w) fs fun g hg => h g (by simp [hg])
    have h0 : (sizeOf f.type).run P w = .ok (P.cellsOf f.type) w := by simp [sizeOf, typeInfo, hi, Program.cellsOf]
    rw [List.mapM_cons]
    simp only [Sem.run_bind, h0, Result.andThen_ok, Sem.run_pure]
    rw [ih]
    rfl

theorem build_ok {o : Oper} {t : TypeId} {parts : Array (Nat × Operand)} {zs : List Value} {pl : Nat → Option (Nat × Nat)} {ps : List (Nat × Nat × O)} (ho : o.op = .build t parts) (hz : TZero P t zs) (hpl : Places P t pl) (htr : trParts pl zs.length parts.toList = some ps)
    (hs : RelS G x st a) {qs : List (Nat × List AV)} (hq : partsA G st.t ps = some qs) : OpOk P o a G x st.h (.agg (fillA (zs.map ofV1) qs)) st.h := by
  obtain ⟨i, z, h1, h2, h3, h4⟩ := hz
  obtain ⟨us, hu, hc, _, hl⟩ := fillA_rel hs parts.toList ps qs _ zs htr hq (cellsAt_zero h4)
  refine OpOk.val hs.inv (u := .agg us.toArray) ?_ (.agg _ _ hc.len hc.rel) fun id hid => (hl id hid).elim (fun h => by rw [refsL_zero] at h; simp at h) fun h => h
  have hz' : (zeroValue t).run P x.w = .ok z x.w := by simp [zeroValue, typeInfo, h1, h2]
  have hz2 : z.cells = zs.toArray := by rw [← h3]
  have hpm : (parts.map fun p => (p.1, a.eval p.2)).toList = parts.toList.map fun p => (p.1, a.eval p.2) := by simp
  rcases hpl with ⟨fs, hf, hfi, rfl⟩ | ⟨n, e, hf, hfi, rfl⟩
  · have hm : (fs.mapM fun f => (do pure (f.offset, ← sizeOf f.type) : Sem (Nat × Nat))).run P x.w = .ok (fs.map fun f => (f.offset, P.cellsOf f.type)) x.w := by
      rw [Array.mapM_eq_mapM_toList]
      simp only [Sem.run_map, mapM_places fs.toList hfi, Result.andThen_ok]
      congr 1
      apply Array.ext'
      simp
    have hplace : (fun i : Nat => (fs.map fun f : Field => (f.offset, P.cellsOf f.type))[i]?) = fun i => (fs[i]?).map fun f : Field => (f.offset, P.cellsOf f.type) := by
      funext i
      simp
    simp only [execOp, ho, Instr.build, Sem.run_bind, hz', Result.andThen_ok, run_underlying hf, hm, hz2]
    rw [hplace, hpm, hu]
    rfl
  · obtain ⟨ie, hie⟩ := Option.isSome_iff_exists.1 hfi
    have h0 : (sizeOf e).run P x.w = .ok (P.cellsOf e) x.w := by simp [sizeOf, typeInfo, hie, Program.cellsOf]
    simp only [execOp, ho, Instr.build, Sem.run_bind, hz', Result.andThen_ok, run_underlying hf, h0, hz2]
    rw [hpm, hu]
    rfl

end
end Go.Ev
