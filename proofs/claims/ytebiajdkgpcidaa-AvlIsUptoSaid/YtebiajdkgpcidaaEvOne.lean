/-
  One operation of the model against one of the evaluator: the translation, and that it is right.
-/
import Derived.Test.YtebiajdkgpcidaaEvCall
set_option linter.unusedSimpArgs false
set_option linter.unusedVariables false
namespace Go.Ev

/-! ### What the types say -/
def tsize (P : Program) (t : TypeId) : Option Nat := (P.info? t).map (·.size)
def tbytes (P : Program) (t : TypeId) : Option Nat := (P.info? t).map (·.bytes)
def tagg (P : Program) (t : TypeId) : Option Bool := (P.underlying t).map fun d => match d with
  | .struct _ => true
  | .array _ _ => true
  | _ => false
def tzero (P : Program) (t : TypeId) : Option (List Value) := match P.info? t with
  | some i => match i.zero with
    | some z => if z.cells.toList.all Value.oneCell' then some z.cells.toList else none
    | none => none
  | none => none
def tplaces (P : Program) (t : TypeId) : Option (Nat → Option (Nat × Nat)) := match P.underlying t with
  | some (.struct fs) => if fs.toList.all fun f => (P.info? f.type).isSome then some fun i => (fs[i]?).map fun f => (f.offset, P.cellsOf f.type) else none
  | some (.array _ e) => if (P.info? e).isSome then some fun i => some (i * P.cellsOf e, P.cellsOf e) else none
  | _ => none
def tslice (P : Program) (t : TypeId) : Option TypeId := match P.underlying t with
  | some (.slice e) => some e
  | _ => none
def isStr (P : Program) (t : TypeId) : Bool := match P.underlying t with
  | some .string => true
  | _ => false
def tint (P : Program) (t : TypeId) : Option IntKind := match P.underlying t with
  | some (.int k) => some k
  | _ => none
def isIfc (P : Program) (t : TypeId) : Bool := match P.underlying t with
  | some (.interface _) => true
  | _ => false
def telem (P : Program) (e : TypeId) : Option (Nat × Nat × List Value) := match tzero P e, tsize P e, tbytes P e with
  | some zs, some sz, some b => if zs.length = sz ∧ 0 < sz then some (sz, b, zs) else none
  | _, _, _ => none
def tkOk (P : Program) (xt : TypeId) (cst : Bool) : TK → Bool
  | .plain => true
  | .bool => match P.underlying xt with
    | some .bool => true
    | _ => false
  | .iface e c => isIfc P xt && (tint P e).isSome && (match P.info? e with
    | some i => i.comparable
    | none => false) && (!c || cst)
  | .ptr => match P.underlying xt with
    | some (.pointer _) => true
    | _ => false
  | .slice => (tslice P xt).isSome
  | .arr n => match P.underlying xt with
    | some (.array m e) => n == m && (tint P e).isSome && (tsize P e == some 1) && !P.eqGuardType P.depth xt
    | _ => false

theorem tsize_ok {P : Program} {t : TypeId} {n : Nat} (h : tsize P t = some n) : TSize P t n := h
theorem tagg_ok {P : Program} {t : TypeId} {b : Bool} (h : tagg P t = some b) : TAgg P t b := by
  unfold tagg at h
  obtain ⟨d, h1, h2⟩ := Option.map_eq_some_iff.1 h
  exact ⟨d, h1, h2.symm⟩
theorem tzero_ok {P : Program} {t : TypeId} {zs : List Value} (h : tzero P t = some zs) : TZero P t zs := by
  unfold tzero at h
  split at h
  · rename_i i hi
    split at h
    · rename_i z hz
      split at h
      · rename_i hall
        injection h with h
        subst h
        exact ⟨i, z, hi, hz, rfl, hall⟩
      · simp at h
    · simp at h
  · simp at h
theorem tplaces_ok {P : Program} {t : TypeId} {pl : Nat → Option (Nat × Nat)} (h : tplaces P t = some pl) : Places P t pl := by
  unfold tplaces at h
  split at h
  · rename_i fs hf
    split at h
    · rename_i hall
      injection h with h
      exact .inl ⟨fs, hf, fun f hm => by simpa using List.all_eq_true.1 hall f hm, h.symm⟩
    · simp at h
  · rename_i n e he
    split at h
    · rename_i hall
      injection h with h
      exact .inr ⟨n, e, he, hall, h.symm⟩
    · simp at h
  · simp at h
theorem tslice_ok {P : Program} {t e : TypeId} (h : tslice P t = some e) : P.underlying t = some (.slice e) := by
  unfold tslice at h
  split at h
  · rename_i e' he
    injection h with h
    rw [he, h]
  · simp at h
theorem isStr_ok {P : Program} {t : TypeId} (h : isStr P t = true) : P.underlying t = some .string := by
  unfold isStr at h
  split at h
  · assumption
  · simp at h
theorem tint_ok {P : Program} {t : TypeId} {k : IntKind} (h : tint P t = some k) : P.underlying t = some (.int k) := by
  unfold tint at h
  split at h
  · rename_i e' he
    injection h with h
    rw [he, h]
  · simp at h
theorem isIfc_ok {P : Program} {t : TypeId} (h : isIfc P t = true) : ∃ ms, P.underlying t = some (.interface ms) := by
  unfold isIfc at h
  split at h
  · exact ⟨_, by assumption⟩
  · simp at h
theorem telem_ok {P : Program} {e : TypeId} {sz b : Nat} {zs : List Value} (h : telem P e = some (sz, b, zs)) : TElem P e sz b zs := by
  unfold telem at h
  split at h
  · rename_i z s b' h1 h2 h3
    split at h
    · rename_i hc
      simp only [Option.some.injEq, Prod.mk.injEq] at h
      obtain ⟨rfl, rfl, rfl⟩ := h
      exact ⟨tzero_ok h1, h2, h3, hc.1, hc.2⟩
    · simp at h
  · simp at h
theorem tkOk_ok {P : Program} {xt : TypeId} {cst : Bool} {tk : TK} (h : tkOk P xt cst tk = true) : TKOk P xt cst tk := by
  cases tk with
  | plain => trivial
  | bool =>
    simp only [tkOk] at h
    split at h
    · assumption
    · simp at h
  | iface e c =>
    simp only [tkOk, Bool.and_eq_true, Bool.or_eq_true, Bool.not_eq_true'] at h
    obtain ⟨⟨⟨h1, h2⟩, h3⟩, h4⟩ := h
    obtain ⟨k, hk⟩ := Option.isSome_iff_exists.1 h2
    refine ⟨isIfc_ok h1, ⟨k, tint_ok hk⟩, ?_, fun hc => h4.resolve_left (by simp [hc])⟩
    split at h3
    · exact ⟨_, by assumption, h3⟩
    · simp at h3
  | ptr =>
    simp only [tkOk] at h
    split at h
    · exact ⟨_, by assumption⟩
    · simp at h
  | slice =>
    obtain ⟨e, he⟩ := Option.isSome_iff_exists.1 h
    exact ⟨e, tslice_ok he⟩
  | arr n =>
    simp only [tkOk] at h
    split at h
    · rename_i m e he
      simp only [Bool.and_eq_true, beq_iff_eq, Bool.not_eq_true'] at h
      obtain ⟨⟨⟨h1, h2⟩, h3⟩, h4⟩ := h
      subst h1
      obtain ⟨k, hk⟩ := Option.isSome_iff_exists.1 h2
      unfold tsize at h3
      obtain ⟨i, hi, hs⟩ := Option.map_eq_some_iff.1 h3
      exact ⟨e, k, i, he, tint_ok hk, hi, hs, h4⟩
    · simp at h

/-- A move, or one behind which no slice is known to be nil. -/
def mvOr (an : Op1) (x : O) : Op1 := match an with
  | .cn _ => .cn x
  | _ => .mv x

/-! ### The translation. The second argument is what is to come out: slots and choices are taken from it. -/
def tr0 (P : Program) (op : Op) (an : Op1) : Option Op1 := match op with
  | .move x => some (mvOr an (trO x))
  | .assign x => some (mvOr an (trO x))
  | .pick c x y => some (.pick (trO c) (trO x) (trO y))
  | .alloc t => match an with
    | .new s _ => (tzero P t).map fun zs => .new s zs
    | _ => none
  | .box _ x => match an with
    | .box s sz _ => some (.box s sz (trO x))
    | _ => none
  | .build t ps => match tzero P t, tplaces P t with
    | some zs, some pl => (trParts pl zs.length ps.toList).map fun qs => .build zs qs
    | _, _ => none
  | .buildSlice t n ps => match tslice P t with
    | some e => match tzero P e, tsize P e with
      | some zs, some sz => if zs.length = sz ∧ 0 < sz ∧ n * sz ≤ 16777216 then (match an with
        | .lit s _ _ _ _ _ => some (.lit s e sz n zs (trPartsE ps.toList))
        | .litd _ _ _ _ => some (.litd sz n zs (trPartsE ps.toList))
        | _ => none) else none
      | _, _ => none
    | none => none
  | .load t x => match tagg P t, tsize P t with
    | some ag, some sz => some (.load ag sz (trO x))
    | _, _ => none
  | .store t x y => (tsize P t).map fun sz => .store sz (trO x) (trO y)
  | .nilCheck x => some (.nilc (trO x))
  | .binOp op xt x y _ => match an with
    | .bin tk _ _ _ => if tkOk P xt (isConst x || isConst y) tk then some (.bin tk op (trO x) (trO y)) else none
    | _ => none
  | .unOp op _ x => some (.un op (trO x))
  | .convert s d x => match an with
    | .conv _ _ => match P.underlying s, tint P d with
      | some _, some k => some (.conv k (trO x))
      | _, _ => none
    | .s2b _ => match tslice P d with
      | some e => if isStr P s ∧ tint P e = some .u8 then some (.s2b (trO x)) else none
      | none => none
    | .b2s _ => match tslice P s with
      | some e => if isStr P d ∧ tint P e = some .u8 then some (.b2s (trO x)) else none
      | none => none
    | .markb _ => match tslice P s with
      | some e => if s = d ∧ tint P e = some .u8 then some (.markb (trO x)) else none
      | none => none
    | _ => none
  | .makeInterface t x => match P.underlying t with
    | some _ => if isIfc P t then none else some (.mki t (trO x))
    | none => none
  | .makeFunc fn first caps => match fn, first.toList with
    | .func f, [] => some (.mkf f (caps.toList.map trO))
    | _, _ => none
  | .makeSlice t x y => match tslice P t with
    | some e => match an, telem P e with
      | .make s _ _ _ _ _ _, some (sz, b, zs) => some (.make s e sz b zs (trO x) (trO y))
      | _, _ => none
    | none => none
  | .slice t x lo hi mx => match an with
    | .slices _ _ _ => match mx with
      | none => if isStr P t then some (.slices (trO x) (lo.map trO) (hi.map trO)) else none
      | _ => none
    | .slice _ _ _ _ _ => match tslice P t with
      | some e => (tsize P e).map fun sz => .slice sz (trO x) (lo.map trO) (hi.map trO) (mx.map trO)
      | none => none
    | .trunc s _ _ => match lo, hi, mx, tslice P t with
      | none, some z, none, some e => (tsize P e).map fun _ => .trunc s (trO x) (trO z)
      | _, _, _, _ => none
    | _ => none
  | .field t x i => match P.underlying t with
    | some (.struct fs) => match fs[i]? with
      | some f => match tagg P f.type, tsize P f.type with
        | some ag, some sz => some (.fld f.offset sz ag (trO x))
        | _, _ => none
      | none => none
    | _ => none
  | .fieldAddr t x i => match P.underlying t with
    | some (.struct fs) => match fs[i]? with
      | some f => match tsize P f.type with
        | some (_ + 1) => some (.fa f.offset (trO x))
        | _ => none
      | none => none
    | _ => none
  | .indexAddr t x y => match P.underlying t with
    | some (.array n e) => (tsize P e).map fun sz => .iap n sz (trO x) (trO y)
    | some (.slice e) => (tsize P e).map fun sz => .ia sz (trO x) (trO y)
    | _ => none
  | .index t x y => match P.underlying t with
    | some (.array n e) => match tagg P e, tsize P e with
      | some ag, some sz => some (.ix n sz ag (trO x) (trO y))
      | _, _ => none
    | some .string => some (.ixs (trO x) (trO y))
    | _ => none
  | .extract x i => some (.ext i (trO x))
  | .call c => match c.callee with
    | .value g => match an with
      | .qcall f' _ outs => match g with
        | .func f => if real f' = f then some (.qcall f' (c.args.toList.map trO) outs) else none
        | _ => none
      | .call f' _ outs => match g with
        | .func f => if real f' = f then some (.call f' (c.args.toList.map trO) outs) else none
        | _ => none
      | .callv _ _ outs => some (.callv (trO g) (c.args.toList.map trO) outs)
      | .cmpb _ _ => match g, c.args.toList with
        | .func f, [x, y] => if isCmp P f then some (.cmpb (trO x) (trO y)) else none
        | _, _ => none
      | _ => none
    | .builtin b => match b, c.args.toList, c.argTypes.toList with
      | .max, [x, y], _ => some (.mx (trO x) (trO y))
      | .min, [x, y], _ => some (.mn (trO x) (trO y))
      | .cap, [x], [t] => (tslice P t).map fun _ => .capn (trO x)
      | .len, [x], [t] => if isStr P t then some (.len true (trO x)) else (tslice P t).map fun _ => .len false (trO x)
      | .append, [x, y], [t, t2] => match tslice P t with
        | some e => match telem P e with
          | some (sz, b, zs) => match an with
            | .app s _ _ _ _ _ => match P.underlying t2, tint P t2 with
              | some _, none => some (.app s e sz b (trO x) (trO y))
              | _, _ => none
            | .appz s _ _ _ _ _ _ => (tint P t2).map fun _ => .appz s e sz b zs (trO x) (trO y)
            | _ => none
          | none => none
        | none => none
      | _, _, _ => none
    | _ => none
  | _ => none

/-- What can't be reached needs no translation. -/
def isTrap : Op1 → Bool
  | .trap => true
  | _ => false
def tr1 (P : Program) (op : Op) (an : Op1) : Option Op1 := if isTrap an then some .trap else tr0 P op an

/-! ### Calls -/
def Enters (P : Program) (f : FuncId) : Prop := ∃ fn c, P.funcs[f]? = some fn ∧ (fn.name == "runtime.NumGoroutine") = false ∧ fn.body = some c

section
variable {P : Program} {G : Cf} {x : Cx} {st : St} {a : Act} {F : FnEv}

theorem callFunc_enter {f : FuncId} (h : Enters P f) (args : Array Value) (w : World) : (callFunc f args).run P w = .ok (.enter f args) w := by
  obtain ⟨fn, c, hf, hname, hb⟩ := h
  have h1 : fn.name ≠ "runtime.NumGoroutine" := by simpa using hname
  simp [callFunc, hf, h1, hb]

theorem call_run {o : Oper} {f : FuncId} {c : Call} (ho : o.op = .call c) (hc : c.callee = .value (.func f)) (h : Enters P f) (w : World) :
    (execOp a.eval o).run P w = .ok (.enter f (c.args.toList.map a.eval).toArray) w := by
  have h1 : c.args.map a.eval = (c.args.toList.map a.eval).toArray := by
    apply Array.ext'
    simp
  simp [execOp, ho, resolve, hc, Act.eval, Deferred.ofValue, invoke, callFunc_enter h]
  exact h1

theorem callv_run {o : Oper} {f : FuncId} {c : Call} {g : Operand} {caps : List Value} (ho : o.op = .call c) (hc : c.callee = .value g) (hg : a.eval g = .func (.func f) #[] caps.toArray) (h : Enters P f) (w : World) :
    (execOp a.eval o).run P w = .ok (.enter f (c.args.toList.map a.eval ++ caps).toArray) w := by
  have h1 : c.args.map a.eval ++ caps.toArray = (c.args.toList.map a.eval ++ caps).toArray := by
    apply Array.ext'
    simp
  simp [execOp, ho, resolve, hc, hg, Deferred.ofValue, invoke, callFunc_enter h]

theorem args_rel (hs : RelS G x st a) (l : List Operand) : ∀ (i : Nat) (b : AV) (v : Value), ((l.map trO).map (rho G st.t))[i]? = some b → (l.map a.eval)[i]? = some v → RelV x st.h b v := fun i b v h1 h2 => by
  simp only [List.getElem?_map, Option.map_eq_some_iff] at h1 h2
  obtain ⟨_, ⟨y, h3, rfl⟩, rfl⟩ := h1
  obtain ⟨y', h4, rfl⟩ := h2
  rw [h3] at h4
  injection h4 with h4
  subst h4
  exact hs.opd y

theorem args_live (hs : RelS G x st a) (l : List Operand) : Live st.h ((l.map trO).map (rho G st.t)) := fun id hid => by
  obtain ⟨i, b, h1, h2⟩ := mem_refsL_iff.1 hid
  simp only [List.getElem?_map, Option.map_eq_some_iff] at h1
  obtain ⟨_, ⟨y, _, rfl⟩, rfl⟩ := h1
  exact hs.opdRefs y id h2

mutual
theorem AV.ren_nil (r : Nat → Nat) : ∀ a : AV, a.refs = [] → a.ren r = a
  | .undef, _ => rfl
  | .s v, _ => rfl
  | .sl o l, _ => rfl
  | .nilsl, _ => rfl
  | .esl, _ => rfl
  | .row id n, h => by simp [AV.refs] at h
  | .ptr id o, h => by simp [AV.refs] at h
  | .eptr id n i k, h => by simp [AV.refs] at h
  | .daddr o l, _ => rfl
  | .agg l, h => by simp only [AV.ren]; rw [renL_nil r l (by simpa [AV.refs] using h)]
  | .tup l, h => by simp only [AV.ren]; rw [renL_nil r l (by simpa [AV.refs] using h)]
  | .ifc t v, h => by simp only [AV.ren]; rw [AV.ren_nil r v (by simpa [AV.refs] using h)]
  | .clos f l, h => by simp only [AV.ren]; rw [renL_nil r l (by simpa [AV.refs] using h)]
theorem renL_nil (r : Nat → Nat) : ∀ l : List AV, refsL l = [] → renL r l = l
  | [], _ => rfl
  | a :: l, h => by
    simp only [refsL, List.append_eq_nil_iff] at h
    simp only [renL]; rw [AV.ren_nil r a h.1, renL_nil r l h.2]
end

theorem reach_nil (h : Heap) : reach h [] = [] := rfl

/-- A call by values alone is a call. -/
theorem qcall_eq {f : Nat} {args : List O} {outs : List Nat} {h h' : Heap} {v : AV} {al : List (Nat × Obj)} (he : evP G st.t F (.qcall f args outs) = some (v, al)) (ha : alloc al h = some h') :
    evCall F h f (args.map (rho G st.t)) outs = some (v, h') := by
  simp only [evP] at he
  split at he
  · rename_i hem
    have hem : refsL (args.map (rho G st.t)) = [] := by simpa using hem
    split at he
    · rename_i rs os hF
      split at he
      · rename_i hlen
        simp only [Option.some.injEq, Prod.mk.injEq] at he
        obtain ⟨e1, e2⟩ := he
        subst e1 e2
        simp only [evCall, hem, reach_nil, closed, List.all_nil, Bool.and_self, List.nodup_nil, decide_true, Bool.true_and, if_true, getAll, renL_nil _ _ hem, List.map_nil, hF, fitO, Nat.sub_zero, List.any_nil, Bool.or_false, hlen, List.take_length, List.length_nil, Nat.zero_add, List.nil_append, List.drop_zero, List.take_zero, putAll]
        rw [ha]
      · simp at he
    · simp at he
  · simp at he

/-! ### One operation -/
structure FnsOk (P : Program) (G : Cf) (F : FnEv) : Prop where
  ok : FnOk P G F
  enters : ∀ f args ins r, F f args ins = some r → Enters P (real f)
  gf : G.gf = true → ∀ g, G.G g = []

theorem evCall_some {h : Heap} {f : Nat} {args : List AV} {outs : List Nat} {r : AV × Heap} (he : evCall F h f args outs = some r) : ∃ args' ins r', F f args' ins = some r' := by
  simp only [evCall] at he
  split at he
  · split at he
    · split at he
      · exact ⟨_, _, _, by assumption⟩
      · simp at he
    · simp at he
  · simp at he

theorem evCall_ok' (hF : FnsOk P G F) {o : Oper} {c : Call} {f : FuncId} (ho : o.op = .call c) (hc : c.callee = .value (.func (real f))) (hs : RelS G x st a) {outs : List Nat} {v : AV} {h' : Heap}
    (he : evCall F st.h f ((c.args.toList.map trO).map (rho G st.t)) outs = some (v, h')) : OpOk P o a G x st.h v h' := by
  obtain ⟨_, _, _, hFe⟩ := evCall_some he
  exact evCall_ok hF.ok hF.gf hs.inv hs.b0 (call_run ho hc (hF.enters _ _ _ _ hFe) x.w) (by simp) (args_rel hs _) (args_live hs _) he

theorem ev1_ok (hF : FnsOk P G F) {o : Oper} {an op1 : Op1} (htr : tr1 P o.op an = some op1) (hs : RelS G x st a) {v : AV} {h' : Heap} (he : ev1 G F st op1 = some (v, h')) : OpOk P o a G x st.h v h' := by
  have hP : ∀ {q : Op1}, q.cls = .p → ev1 G F st q = some (v, h') → ∃ al, evP G st.t F q = some (v, al) ∧ alloc al st.h = some h' := fun {q} hq hev => by
    simp only [ev1, hq] at hev
    split at hev
    · rename_i v' al h1
      split at hev
      · rename_i h2 h3
        simp only [Option.some.injEq, Prod.mk.injEq] at hev
        obtain ⟨rfl, rfl⟩ := hev
        exact ⟨al, h1, h3⟩
      · simp at hev
    · simp at hev
  have hP0 : ∀ {q : Op1} {al : List (Nat × Obj)}, al = [] → alloc al st.h = some h' → h' = st.h := fun {q al} h1 h2 => by
    subst h1
    simpa [alloc] using h2.symm
  have hR : ∀ {q : Op1}, q.cls = .r → ev1 G F st q = some (v, h') → evR G st.t st.h q = some v ∧ h' = st.h := fun {q} hq hev => by
    simp only [ev1, hq] at hev
    split at hev
    · rename_i v' h1
      simp only [Option.some.injEq, Prod.mk.injEq] at hev
      obtain ⟨rfl, rfl⟩ := hev
      exact ⟨h1, rfl⟩
    · simp at hev
  have hW : ∀ {q : Op1}, q.cls = .w → ev1 G F st q = some (v, h') → evW G st.t F st.h q = some (v, h') := fun {q} hq hev => by
    simpa only [ev1, hq] using hev
  unfold tr1 at htr
  split at htr
  · injection htr with htr; subst htr
    obtain ⟨al, h1, h2⟩ := hP rfl he
    simp [evP] at h1
  rename_i hnt
  clear hnt
  unfold tr0 at htr
  split at htr
  · rename_i y ho
    injection htr with htr; subst htr
    unfold mvOr at he
    split at he
    · obtain ⟨al, h1, h2⟩ := hP rfl he
      simp only [evP, Option.some.injEq, Prod.mk.injEq] at h1
      obtain ⟨rfl, rfl⟩ := h1
      obtain rfl := hP0 (q := .mv (trO y)) rfl h2
      exact cn_ok (.inl ho) hs
    · obtain ⟨al, h1, h2⟩ := hP rfl he
      simp only [evP, Option.some.injEq, Prod.mk.injEq] at h1
      obtain ⟨rfl, rfl⟩ := h1
      obtain rfl := hP0 (q := .mv (trO y)) rfl h2
      exact mv_ok (.inl ho) hs
  · rename_i y ho
    injection htr with htr; subst htr
    unfold mvOr at he
    split at he
    · obtain ⟨al, h1, h2⟩ := hP rfl he
      simp only [evP, Option.some.injEq, Prod.mk.injEq] at h1
      obtain ⟨rfl, rfl⟩ := h1
      obtain rfl := hP0 (q := .mv (trO y)) rfl h2
      exact cn_ok (.inr ho) hs
    · obtain ⟨al, h1, h2⟩ := hP rfl he
      simp only [evP, Option.some.injEq, Prod.mk.injEq] at h1
      obtain ⟨rfl, rfl⟩ := h1
      obtain rfl := hP0 (q := .mv (trO y)) rfl h2
      exact mv_ok (.inr ho) hs
  · rename_i c y z ho
    injection htr with htr; subst htr
    obtain ⟨al, h1, h2⟩ := hP rfl he
    simp only [evP] at h1
    split at h1
    · rename_i hb
      simp only [Option.some.injEq, Prod.mk.injEq] at h1
      obtain ⟨rfl, rfl⟩ := h1
      obtain rfl := hP0 (q := .mv (trO y)) rfl h2
      exact pick_ok ho hs hb
    · rename_i hb
      simp only [Option.some.injEq, Prod.mk.injEq] at h1
      obtain ⟨rfl, rfl⟩ := h1
      obtain rfl := hP0 (q := .mv (trO y)) rfl h2
      exact pick_ok ho hs hb
    · simp at h1
  · rename_i t ho
    split at htr
    · rename_i s zs0
      obtain ⟨zs, hz, rfl⟩ := Option.map_eq_some_iff.1 htr
      obtain ⟨al, h1, h2⟩ := hP rfl he
      simp only [evP, Option.some.injEq, Prod.mk.injEq] at h1
      obtain ⟨rfl, rfl⟩ := h1
      exact new_ok ho (tzero_ok hz) hs h2
    · simp at htr
  · rename_i t y ho
    split at htr
    · rename_i s sz y0
      injection htr with htr; subst htr
      obtain ⟨al, h1, h2⟩ := hP rfl he
      simp only [evP] at h1
      split at h1
      · rename_i hc
        simp only [Option.some.injEq, Prod.mk.injEq] at h1
        obtain ⟨rfl, rfl⟩ := h1
        exact box_ok ho hs hc.2 h2
      · simp at h1
    · simp at htr
  · rename_i t ps ho
    split at htr
    · rename_i zs pl hz hpl
      obtain ⟨qs, hq, rfl⟩ := Option.map_eq_some_iff.1 htr
      obtain ⟨al, h1, h2⟩ := hP rfl he
      simp only [evP] at h1
      split at h1
      · rename_i qq hqq
        simp only [Option.some.injEq, Prod.mk.injEq] at h1
        obtain ⟨rfl, rfl⟩ := h1
        obtain rfl := hP0 (q := .mv (.t 0)) rfl h2
        exact build_ok ho (tzero_ok hz) (tplaces_ok hpl) hq hs hqq
      · simp at h1
    · simp at htr
  · rename_i t n ps ho
    split at htr
    · rename_i e hsl
      split at htr
      · rename_i zs sz hz hsz
        split at htr
        · rename_i hc
          split at htr
          · injection htr with htr; subst htr
            obtain ⟨al, h1, h2⟩ := hP rfl he
            simp only [evP] at h1
            split at h1
            · rename_i qq hqq
              simp only [Option.some.injEq, Prod.mk.injEq] at h1
              obtain ⟨rfl, rfl⟩ := h1
              exact lit_ok ho (tslice_ok hsl) (tzero_ok hz) hsz hc.1 hc.2.1 hc.2.2 hs hqq h2
            · simp at h1
          · injection htr with htr; subst htr
            obtain ⟨al, h1, h2⟩ := hP rfl he
            simp only [evP] at h1
            split at h1
            · rename_i qq hqq
              simp only [Option.some.injEq, Prod.mk.injEq] at h1
              obtain ⟨rfl, rfl⟩ := h1
              obtain rfl := hP0 (q := .mv (.t 0)) rfl h2
              exact litd_ok ho (tslice_ok hsl) (tzero_ok hz) hsz hc.1 hc.2.2 hs hqq
            · simp at h1
          · simp at htr
        · simp at htr
      · simp at htr
    · simp at htr
  · rename_i t y ho
    split at htr
    · rename_i ag sz h3 h4
      injection htr with htr; subst htr
      obtain ⟨h1, rfl⟩ := hR rfl he
      exact load_ok ho (tagg_ok h3) h4 hs h1
    · simp at htr
  · rename_i t y z ho
    obtain ⟨sz, h3, rfl⟩ := Option.map_eq_some_iff.1 htr
    exact store_ok ho h3 hs (hW rfl he)
  · rename_i y ho
    injection htr with htr; subst htr
    obtain ⟨al, h1, h2⟩ := hP rfl he
    obtain ⟨h3, h4⟩ := nilc_ok ho hs h1
    obtain rfl := hP0 (q := .mv (.t 0)) h3 h2
    exact h4
  · rename_i op xt y z yt ho
    split at htr
    · split at htr
      · rename_i htk
        injection htr with htr; subst htr
        obtain ⟨al, h1, h2⟩ := hP rfl he
        simp only [evP] at h1
        split at h1
        · rename_i u hu
          simp only [Option.some.injEq, Prod.mk.injEq] at h1
          obtain ⟨rfl, rfl⟩ := h1
          obtain rfl := hP0 (q := .mv (.t 0)) rfl h2
          exact bin_ok ho (tkOk_ok htk) hs hu
        · simp at h1
      · simp at htr
    · simp at htr
  · rename_i op t y ho
    injection htr with htr; subst htr
    obtain ⟨al, h1, h2⟩ := hP rfl he
    simp only [evP] at h1
    split at h1
    · rename_i u hu
      simp only [Option.some.injEq, Prod.mk.injEq] at h1
      obtain ⟨rfl, rfl⟩ := h1
      obtain rfl := hP0 (q := .mv (.t 0)) rfl h2
      exact un_ok ho hs hu
    · simp at h1
  · rename_i s d y ho
    split at htr
    · split at htr
      · rename_i ds k h3 h4
        injection htr with htr; subst htr
        obtain ⟨al, h1, h2⟩ := hP rfl he
        simp only [evP] at h1
        split at h1
        · rename_i u hu
          simp only [Option.some.injEq, Prod.mk.injEq] at h1
          obtain ⟨rfl, rfl⟩ := h1
          obtain rfl := hP0 (q := .mv (.t 0)) rfl h2
          exact conv_ok ho ⟨_, h3⟩ (tint_ok h4) hs hu
        · simp at h1
      · simp at htr
    · split at htr
      · rename_i e h3
        split at htr
        · rename_i hc
          injection htr with htr; subst htr
          obtain ⟨al, h1, h2⟩ := hP rfl he
          simp only [evP] at h1
          split at h1
          · rename_i u hu
            simp only [Option.some.injEq, Prod.mk.injEq] at h1
            obtain ⟨rfl, rfl⟩ := h1
            obtain rfl := hP0 (q := .mv (.t 0)) rfl h2
            exact s2b_ok ho (isStr_ok hc.1) (tslice_ok h3) (tint_ok hc.2) hs hu
          · simp at h1
        · simp at htr
      · simp at htr
    · split at htr
      · rename_i e h3
        split at htr
        · rename_i hc
          injection htr with htr; subst htr
          obtain ⟨h1, rfl⟩ := hR rfl he
          exact b2s_ok ho (tslice_ok h3) (tint_ok hc.2) (isStr_ok hc.1) hs h1
        · simp at htr
      · simp at htr
    · split at htr
      · rename_i e h3
        split at htr
        · rename_i hc
          injection htr with htr; subst htr
          obtain ⟨rfl, hc⟩ := hc
          exact markb_ok ho (tslice_ok h3) (tint_ok hc) hs (hW rfl he)
        · simp at htr
      · simp at htr
    · simp at htr
  · rename_i t y ho
    split at htr
    · rename_i d hd
      split at htr
      · simp at htr
      · rename_i hni
        injection htr with htr; subst htr
        obtain ⟨al, h1, h2⟩ := hP rfl he
        obtain ⟨h3, h4⟩ := mki_ok ho ⟨d, hd, fun ms hm => hni (by simp [isIfc, hd, hm])⟩ hs h1
        obtain rfl := hP0 (q := .mv (.t 0)) h3 h2
        exact h4
    · simp at htr
  · rename_i fn first caps ho
    split at htr
    · rename_i f hfirst
      have hfirst : first = #[] := by
        apply Array.ext'
        simpa using hfirst
      subst hfirst
      injection htr with htr; subst htr
      obtain ⟨al, h1, h2⟩ := hP rfl he
      simp only [evP, Option.some.injEq, Prod.mk.injEq] at h1
      obtain ⟨rfl, rfl⟩ := h1
      obtain rfl := hP0 (q := .mv (.t 0)) rfl h2
      exact mkf_ok ho hs
    · simp at htr
  · rename_i t y z ho
    split at htr
    · rename_i e hsl
      split at htr
      · rename_i sz b zs hel
        injection htr with htr; subst htr
        obtain ⟨al, h1, h2⟩ := hP rfl he
        simp only [evP] at h1
        split at h1
        · rename_i n c hn hcc
          split at h1
          · rename_i hc
            obtain ⟨rfl, hc1, hc2, hc3⟩ := hc
            simp only [Option.some.injEq, Prod.mk.injEq] at h1
            obtain ⟨rfl, rfl⟩ := h1
            have te := telem_ok hel
            exact make_ok ho (tslice_ok hsl) te.zero te.size te.bytes te.len te.pos hs hn hcc hc1 hc2 hc3 h2
          · simp at h1
        · simp at h1
      · simp at htr
    · simp at htr
  · rename_i t y lo hi mx ho
    split at htr
    · split at htr
      · split at htr
        · rename_i hst
          injection htr with htr; subst htr
          obtain ⟨al, h1, h2⟩ := hP rfl he
          obtain ⟨h3, h4⟩ := slices_ok ho (isStr_ok hst) hs h1
          obtain rfl := hP0 (q := .mv (.t 0)) h3 h2
          exact h4
        · simp at htr
      · simp at htr
    · split at htr
      · rename_i e hsl
        obtain ⟨sz, hsz, rfl⟩ := Option.map_eq_some_iff.1 htr
        obtain ⟨al, h1, h2⟩ := hP rfl he
        obtain ⟨h3, h4⟩ := slice_ok ho (tslice_ok hsl) hsz hs h1
        obtain rfl := hP0 (q := .mv (.t 0)) h3 h2
        exact h4
      · simp at htr
    · split at htr
      · rename_i z e hsl
        obtain ⟨sz, hsz, rfl⟩ := Option.map_eq_some_iff.1 htr
        exact trunc_ok ho (tslice_ok hsl) ⟨sz, hsz⟩ hs (hW rfl he)
      · simp at htr
    · simp at htr
  · rename_i t y i ho
    split at htr
    · rename_i fs hst
      split at htr
      · rename_i f hf
        split at htr
        · rename_i ag sz h3 h4
          injection htr with htr; subst htr
          obtain ⟨al, h1, h2⟩ := hP rfl he
          simp only [evP] at h1
          split at h1
          · rename_i l hq
            have key : al = [] ∧ partA ag f.offset sz l = some v := by
              unfold partA
              split at h1
              · split at h1
                · simp only [Option.some.injEq, Prod.mk.injEq] at h1
                  obtain ⟨rfl, rfl⟩ := h1
                  simp [*]
                · simp at h1
              · split at h1
                · simp only [Option.some.injEq, Prod.mk.injEq] at h1
                  obtain ⟨rfl, rfl⟩ := h1
                  simp [*]
                · simp at h1
            obtain rfl := hP0 (q := .mv (.t 0)) key.1 h2
            exact fld_ok ho hst hf (tagg_ok h3) h4 hs hq key.2
          · simp at h1
        · simp at htr
      · simp at htr
    · simp at htr
  · rename_i t y i ho
    split at htr
    · rename_i fs hst
      split at htr
      · rename_i f hf
        split at htr
        · rename_i n hn
          injection htr with htr; subst htr
          obtain ⟨al, h1, h2⟩ := hP rfl he
          obtain ⟨h3, h4⟩ := fa_ok ho hst hf hn hs h1
          obtain rfl := hP0 (q := .mv (.t 0)) h3 h2
          exact h4
        · simp at htr
      · simp at htr
    · simp at htr
  · rename_i t y z ho
    split at htr
    · rename_i n e hst
      obtain ⟨sz, hsz, rfl⟩ := Option.map_eq_some_iff.1 htr
      obtain ⟨al, h1, h2⟩ := hP rfl he
      obtain ⟨h3, h4⟩ := iap_ok ho hst hsz hs h1
      obtain rfl := hP0 (q := .mv (.t 0)) h3 h2
      exact h4
    · rename_i e hst
      obtain ⟨sz, hsz, rfl⟩ := Option.map_eq_some_iff.1 htr
      obtain ⟨h1, rfl⟩ := hR rfl he
      exact ia_ok ho hst hsz hs h1
    · simp at htr
  · rename_i t y z ho
    split at htr
    · rename_i n e hst
      split at htr
      · rename_i ag sz h3 h4
        injection htr with htr; subst htr
        obtain ⟨al, h1, h2⟩ := hP rfl he
        simp only [evP] at h1
        split at h1
        · rename_i l k i hq hz
          split at h1
          · rename_i hi
            have key : al = [] ∧ partA ag (i.toNat * sz) sz l = some v := by
              unfold partA
              split at h1
              · split at h1
                · simp only [Option.some.injEq, Prod.mk.injEq] at h1
                  obtain ⟨rfl, rfl⟩ := h1
                  simp [*]
                · simp at h1
              · split at h1
                · simp only [Option.some.injEq, Prod.mk.injEq] at h1
                  obtain ⟨rfl, rfl⟩ := h1
                  simp [*]
                · simp at h1
            obtain rfl := hP0 (q := .mv (.t 0)) key.1 h2
            exact ix_ok ho hst (tagg_ok h3) h4 hs hq hz hi key.2
          · simp at h1
        · simp at h1
      · simp at htr
    · rename_i hst
      injection htr with htr; subst htr
      obtain ⟨al, h1, h2⟩ := hP rfl he
      simp only [evP] at h1
      split at h1
      · rename_i s k i hq hz
        split at h1
        · rename_i hi
          split at h1
          · rename_i b hb
            simp only [Option.some.injEq, Prod.mk.injEq] at h1
            obtain ⟨rfl, rfl⟩ := h1
            obtain rfl := hP0 (q := .mv (.t 0)) rfl h2
            exact ixs_ok ho hst hs hq hz hi hb
          · simp at h1
        · simp at h1
      · simp at h1
    · simp at htr
  · rename_i y i ho
    injection htr with htr; subst htr
    obtain ⟨al, h1, h2⟩ := hP rfl he
    simp only [evP] at h1
    split at h1
    · rename_i l hq
      split at h1
      · rename_i u hu
        simp only [Option.some.injEq, Prod.mk.injEq] at h1
        obtain ⟨rfl, rfl⟩ := h1
        obtain rfl := hP0 (q := .mv (.t 0)) rfl h2
        exact ext_ok ho hs hq hu
      · simp at h1
    · simp at h1
  · rename_i c ho
    split at htr
    · rename_i g hg
      split at htr
      · split at htr
        · rename_i f' _ outs f
          split at htr
          · rename_i hre
            subst hre
            injection htr with htr; subst htr
            obtain ⟨al, h1, h2⟩ := hP rfl he
            exact evCall_ok' hF ho hg hs (qcall_eq h1 h2)
          · simp at htr
        · simp at htr
      · split at htr
        · rename_i f' _ outs f
          split at htr
          · rename_i hre
            subst hre
            injection htr with htr; subst htr
            exact evCall_ok' hF ho hg hs (hW rfl he)
          · simp at htr
        · simp at htr
      · injection htr with htr; subst htr
        have h1 := hW rfl he
        simp only [evW] at h1
        split at h1
        · rename_i f caps hq
          split at h1
          case isFalse => simp at h1
          rename_i hlt
          have hre : real f = f := if_pos hlt
          have hr := hs.opd g
          rw [hq] at hr
          have hl : ∀ id ∈ refsL caps, (getO st.h id).isSome := fun id hid => hs.opdRefs g id (by rw [hq]; simpa [AV.refs] using hid)
          generalize hev : a.eval g = u at hr
          cases hr with
          | clos f l vs hlen hrr =>
            obtain ⟨_, _, _, hFe⟩ := evCall_some h1
            refine evCall_ok hF.ok hF.gf hs.inv hs.b0 (hre.symm ▸ callv_run ho hg hev (hre ▸ hF.enters _ _ _ _ hFe) x.w) (by simp [hlen]) (fun i b v' h3 h4 => ?_) (fun id hid => ?_) h1
            · have hl1 : ((c.args.toList.map trO).map (rho G st.t)).length = (c.args.toList.map a.eval).length := by simp
              rw [List.getElem?_append] at h3 h4
              rw [hl1] at h3
              split at h3
              · rename_i hlt
                rw [if_pos hlt] at h4
                exact args_rel hs _ i b v' h3 h4
              · rename_i hlt
                rw [if_neg hlt] at h4
                exact hrr _ b v' h3 h4
            · obtain ⟨i, b, h3, h4⟩ := mem_refsL_iff.1 hid
              rw [List.getElem?_append] at h3
              split at h3
              · exact args_live hs _ id (mem_refsL h3 h4)
              · exact hl id (mem_refsL h3 h4)
        · simp at h1
      · split at htr
        · rename_i f y z hargs
          split at htr
          · rename_i hcmp
            injection htr with htr; subst htr
            obtain ⟨h1, h2⟩ := hR rfl he
            subst h2
            obtain ⟨fn, k1, k2, k3, k4, k5⟩ := isCmp_ok hcmp
            exact cmpb_ok ho hg hargs k1 k2 k3 k4 k5 hs h1
          · simp at htr
        · simp at htr
      · simp at htr
    · rename_i b hb
      split at htr
      · rename_i y z h3
        injection htr with htr; subst htr
        have ho' : o.op = .call { callee := .builtin .max, args := #[y, z], argTypes := c.argTypes } := by
          rw [ho]
          cases c
          simp_all
          apply Array.ext'
          simpa using h3
        obtain ⟨al, h1, h2⟩ := hP rfl he
        simp only [evP] at h1
        split at h1
        · simp only [Option.some.injEq, Prod.mk.injEq] at h1
          obtain ⟨rfl, rfl⟩ := h1
          obtain rfl := hP0 (q := .mv (.t 0)) rfl h2
          exact mx_ok ho' hs (by assumption) (by assumption)
        · simp at h1
      · rename_i y z h3
        injection htr with htr; subst htr
        have ho' : o.op = .call { callee := .builtin .min, args := #[y, z], argTypes := c.argTypes } := by
          rw [ho]
          cases c
          simp_all
          apply Array.ext'
          simpa using h3
        obtain ⟨al, h1, h2⟩ := hP rfl he
        simp only [evP] at h1
        split at h1
        · simp only [Option.some.injEq, Prod.mk.injEq] at h1
          obtain ⟨rfl, rfl⟩ := h1
          obtain rfl := hP0 (q := .mv (.t 0)) rfl h2
          exact mn_ok ho' hs (by assumption) (by assumption)
        · simp at h1
      · rename_i y t h3 h4
        obtain ⟨e, hsl, rfl⟩ := Option.map_eq_some_iff.1 htr
        have ho' : o.op = .call { callee := .builtin .cap, args := #[y], argTypes := #[t] } := by
          rw [ho]
          cases c
          simp_all
          exact ⟨by apply Array.ext'; simpa using h3, by apply Array.ext'; simpa using h4⟩
        obtain ⟨al, h1, h2⟩ := hP rfl he
        simp only [evP] at h1
        split at h1
        · simp only [Option.some.injEq, Prod.mk.injEq] at h1
          obtain ⟨rfl, rfl⟩ := h1
          obtain rfl := hP0 (q := .mv (.t 0)) rfl h2
          exact capn_ok ho' (tslice_ok hsl) hs (by assumption)
        · simp at h1
      · rename_i y t h3 h4
        have ho' : o.op = .call { callee := .builtin .len, args := #[y], argTypes := #[t] } := by
          rw [ho]
          cases c
          simp_all
          exact ⟨by apply Array.ext'; simpa using h3, by apply Array.ext'; simpa using h4⟩
        split at htr
        · rename_i hst
          injection htr with htr; subst htr
          obtain ⟨h1, rfl⟩ := hR rfl he
          exact len_ok (str := true) ho' (by simpa using isStr_ok hst) hs h1
        · obtain ⟨e, hsl, rfl⟩ := Option.map_eq_some_iff.1 htr
          obtain ⟨h1, rfl⟩ := hR rfl he
          exact len_ok (str := false) ho' (by simpa using ⟨e, tslice_ok hsl⟩) hs h1
      · rename_i y z t t2 h3 h4
        have ho' : o.op = .call { callee := .builtin .append, args := #[y, z], argTypes := #[t, t2] } := by
          rw [ho]
          cases c
          simp_all
          exact ⟨by apply Array.ext'; simpa using h3, by apply Array.ext'; simpa using h4⟩
        split at htr
        · rename_i e hsl
          split at htr
          · rename_i sz b zs hel
            split at htr
            · split at htr
              · rename_i d hd hn
                injection htr with htr; subst htr
                refine app_ok ho' (tslice_ok hsl) ⟨d, hd, fun k hk => ?_⟩ (telem_ok hel) hs (hW rfl he)
                subst hk
                simp [tint, hd] at hn
              · simp at htr
            · obtain ⟨k, hk, rfl⟩ := Option.map_eq_some_iff.1 htr
              exact appz_ok ho' (tslice_ok hsl) (tint_ok hk) (telem_ok hel) hs (hW rfl he)
            · simp at htr
          · simp at htr
        · simp at htr
      · simp at htr
    · simp at htr
  · simp at htr

end
end Go.Ev
