/-
  The operations that look at their operands alone: what the evaluator says of them is what the model does.
-/
import Derived.Test.YtebiajdkgpcidaaEvInv
import Derived.Laws.Cells
import Derived.ChangeKeysEq
import Derived.Laws.StructEq
import Derived.Laws.Cover3
set_option linter.unusedSimpArgs false
set_option linter.unusedVariables false
namespace Go.Ev

def trO : Operand → O
  | .tmp t => .t t
  | .const v => .k v
  | .global g => .g g
  | .func f => .f f

theorem RelV.ofV1 (x : Cx) (h : Heap) (v : Value) : RelV x h (ofV1 v) v := by
  unfold Ev.ofV1
  split
  · exact .nilsl
  · exact .s _

theorem refs_ofV1 (v : Value) : (ofV1 v).refs = [] := by
  unfold Ev.ofV1
  split <;> rfl

theorem refsL_nil {l : List AV} (h : ∀ a ∈ l, a.refs = []) : refsL l = [] := by
  induction l with
  | nil => rfl
  | cons b r ih =>
    simp only [refsL]
    rw [h b (by simp), ih fun a ha => h a (by simp [ha])]
    rfl

theorem RelV.ofV (x : Cx) (h : Heap) (v : Value) : RelV x h (ofV v) v := by
  unfold Ev.ofV
  split
  · exact .nilsl
  · rename_i cs
    refine cast (by rw [Array.toArray_toList]) (RelV.agg (x := x) (h := h) (cs.toList.map Ev.ofV1) cs.toList (by simp) fun i a v h1 h2 => ?_)
    simp only [List.getElem?_map, h2, Option.map_some, Option.some.injEq] at h1
    subst h1
    exact .ofV1 x h v
  · exact .s _

theorem refs_ofV (v : Value) : (ofV v).refs = [] := by
  unfold Ev.ofV
  split
  · rfl
  · simp only [AV.refs]
    exact refsL_nil fun a ha => by
      obtain ⟨v, _, rfl⟩ := List.mem_map.1 ha
      exact refs_ofV1 v
  · rfl

section
variable {P : Program} {G : Cf} {x : Cx} {st : St} {a : Act}

theorem RelS.opd (hs : RelS G x st a) (y : Operand) : RelV x st.h (rho G st.t (trO y)) (a.eval y) := by
  cases y with
  | tmp t => exact hs.val t
  | const v => exact .ofV x st.h v
  | global g =>
    have key : ∀ j, j < (G.G g).length → ∃ v, x.S g j ∧ x.w.cell? ⟨g, j, none⟩ = some v ∧ ∀ c, (G.G g)[j]? = some c → Rep x.w x.S c v := fun j hj => by
      obtain ⟨h1, v, h2, h3⟩ := hs.inv.glob g j _ (List.getElem?_eq_getElem hj)
      exact ⟨v, h1, h2, fun c hc => by rw [List.getElem?_eq_getElem hj] at hc; injection hc with hc; exact hc ▸ h3⟩
    refine .daddr true (G.G g) g 0 (fun j => if h : j < (G.G g).length then Classical.choose (key j h) else undef) (fun j hj => ?_) fun j c hc => ?_
    · have := Classical.choose_spec (key j hj)
      simp only [hj, dif_pos, Nat.zero_add]
      exact ⟨⟨this.1, .inl rfl⟩, this.2.1⟩
    · have hj : j < (G.G g).length := (List.getElem?_eq_some_iff.1 hc).1
      have := Classical.choose_spec (key j hj)
      simp only [hj, dif_pos]
      exact (this.2.2 c hc).mono fun b o hS => ⟨⟨hS, .inl rfl⟩, rfl⟩
  | func f => exact .clos f [] [] rfl fun i a v h1 _ => by simp at h1

theorem RelS.opdRefs (hs : RelS G x st a) (y : Operand) : ∀ id ∈ (rho G st.t (trO y)).refs, (getO st.h id).isSome := by
  cases y with
  | tmp t => exact fun id hid => hs.live id (getD_mem hid)
  | const v => intro id hid; simp [trO, rho, refs_ofV] at hid
  | global g => intro id hid; simp [trO, rho, AV.refs] at hid
  | func f => intro id hid; simp [trO, rho, AV.refs, refsL] at hid

/-- The operation does what the evaluator says. -/
def OpOk (P : Program) (o : Oper) (a : Act) (G : Cf) (x : Cx) (h : Heap) (v : AV) (h' : Heap) : Prop :=
  ∀ (K : Act → World → Prop) (Q : Exit → Act → World → Prop),
    (∀ x' u, Inv G x' h' → Step (fun _ => True) x h x' h' → RelV x' h' v u → (∀ id ∈ v.refs, (getO h' id).isSome) → K (a.put o.dst u) x'.w) → o.wp P a x.w K Q

theorem OpOk.val {o : Oper} {h : Heap} {v : AV} {u : Value} (hi : Inv G x h) (hr : (execOp a.eval o).run P x.w = .ok (.value u) x.w) (hv : RelV x h v u) (hl : ∀ id ∈ v.refs, (getO h id).isSome) :
    OpOk P o a G x h v h := fun K Q hK => by
  unfold Oper.wp
  rw [hr]
  exact hK x u hi (Step.refl _ x h) hv hl

/-! ### Shapes -/
theorem RelV.s_inv {h : Heap} {v u : Value} (hr : RelV x h (.s v) u) : u = v := by cases hr; rfl
theorem RelV.nilsl_inv {h : Heap} {u : Value} (hr : RelV x h .nilsl u) : u = .slice none 0 0 := by cases hr; rfl
theorem RelV.agg_inv {h : Heap} {l : List AV} {u : Value} (hr : RelV x h (.agg l) u) : ∃ vs : List Value, u = .agg vs.toArray ∧ l.length = vs.length ∧ ∀ (i : Nat) (a : AV) (v : Value), l[i]? = some a → vs[i]? = some v → RelV x h a v := by
  cases hr with
  | agg l vs hl hr => exact ⟨vs, rfl, hl, hr⟩
theorem RelV.tup_inv {h : Heap} {l : List AV} {u : Value} (hr : RelV x h (.tup l) u) : ∃ vs : List Value, u = .tuple vs.toArray ∧ l.length = vs.length ∧ ∀ (i : Nat) (a : AV) (v : Value), l[i]? = some a → vs[i]? = some v → RelV x h a v := by
  cases hr with
  | tup l vs hl hr => exact ⟨vs, rfl, hl, hr⟩

theorem RelV.canon1 {x : Cx} {h : Heap} {a : AV} {v : Value} (hr : RelV x h a v) : RelV x h a.canon1 v := by
  cases a <;> simp only [AV.canon1] <;> try exact hr
  rw [hr.nilsl_inv]
  exact .sl _ _ _ (.nil none 0 fun _ => rfl)
theorem RelV.canon {x : Cx} {h : Heap} {a : AV} {v : Value} (hr : RelV x h a v) : RelV x h a.canon v := by
  cases a <;> simp only [AV.canon] <;> try exact hr.canon1
  obtain ⟨vs, rfl, hl, hr'⟩ := hr.agg_inv
  refine .agg _ vs (by simpa using hl) fun i b u h1 h2 => ?_
  rw [List.getElem?_map, Option.map_eq_some_iff] at h1
  obtain ⟨b0, h3, rfl⟩ := h1
  exact (hr' i b0 u h3 h2).canon1
theorem refs_canon1 (a : AV) : a.canon1.refs = a.refs := by cases a <;> rfl
theorem refs_canon (a : AV) : a.canon.refs = a.refs := by
  cases a <;> simp only [AV.canon] <;> try exact refs_canon1 _
  rename_i l
  simp only [AV.refs]
  induction l with
  | nil => rfl
  | cons b l ih => simp only [List.map_cons, refsL, refs_canon1, ih]

/-- A slice's elements in memory. -/
theorem Rep.slice_inv {w : World} {S : Nat → Nat → Prop} {l : List (List C)} {u : Value} (hr : Rep w S (.sl l) u) : ∃ base cap, u = .slice base l.length cap ∧ l.length ≤ cap ∧
    (l ≠ [] → ∃ sz b o, ∃ vals : Nat → Value, base = some ⟨b, o, none⟩ ∧ (∀ e ∈ l, e.length = sz) ∧ (∀ j, j < l.length * sz → S b (o + j) ∧ w.cell? ⟨b, o + j, none⟩ = some (vals j)) ∧
      ∀ (i k : Nat) (e : List C) (c : C), l[i]? = some e → e[k]? = some c → Rep w S c (vals (i * sz + k))) := by
  cases hr with
  | nil base cap h0 => exact ⟨base, cap, rfl, by simp, fun h => absurd rfl h⟩
  | sl l sz b o cap vals hne hsz hcap hc hr => exact ⟨_, cap, rfl, hcap, fun _ => ⟨sz, b, o, vals, rfl, hsz, hc, hr⟩⟩

theorem szOk_iff {sz : Nat} {l : List (List C)} : szOk sz l = true ↔ ∀ e ∈ l, e.length = sz := by
  simp [szOk]

theorem Rep.slice_nil {w : World} {S : Nat → Nat → Prop} {l : List (List C)} {n cap : Nat} (hr : Rep w S (.sl l) (.slice none n cap)) : cap = 0 := by
  cases hr with
  | nil base cap h0 => exact h0 rfl

/-! ### The operations -/
inductive Mt (P : Program) : Op → Op1 → Prop
  | mv (x : Operand) : Mt P (.move x) (.mv (trO x))
  | asg (x : Operand) : Mt P (.assign x) (.mv (trO x))
  | pick (c a b : Operand) : Mt P (.pick c a b) (.pick (trO c) (trO a) (trO b))
  | nilc (x : Operand) : Mt P (.nilCheck x) (.nilc (trO x))
  | un (op : UnOp) (t : TypeId) (x : Operand) : Mt P (.unOp op t x) (.un op (trO x))
  | conv (s d : TypeId) (k : IntKind) (x : Operand) (hs : ∃ ds, P.underlying s = some ds) (hd : P.underlying d = some (.int k)) : Mt P (.convert s d x) (.conv k (trO x))
  | mki (t : TypeId) (x : Operand) (ht : ∃ d, P.underlying t = some d ∧ (∀ ms, d ≠ .interface ms)) : Mt P (.makeInterface t x) (.mki t (trO x))
  | mkf (f : FuncId) (caps : Array Operand) : Mt P (.makeFunc (.func f) #[] caps) (.mkf f (caps.toList.map trO))
  | fa (s : TypeId) (x : Operand) (i : Nat) (fs : Array Field) (f : Field) (n : Nat) (hs : P.underlying s = some (.struct fs)) (hf : fs[i]? = some f) (hn : (P.info? f.type).map (·.size) = some (n + 1)) : Mt P (.fieldAddr s x i) (.fa f.offset (trO x))
  | ext (x : Operand) (i : Nat) : Mt P (.extract x i) (.ext i (trO x))

theorem mv_ok {o : Oper} {y : Operand} (ho : o.op = .move y ∨ o.op = .assign y) (hs : RelS G x st a) : OpOk P o a G x st.h (rho G st.t (trO y)) st.h :=
  OpOk.val hs.inv (u := a.eval y) (by rcases ho with ho | ho <;> simp [execOp, ho]) (hs.opd y) (hs.opdRefs y)

theorem cn_ok {o : Oper} {y : Operand} (ho : o.op = .move y ∨ o.op = .assign y) (hs : RelS G x st a) : OpOk P o a G x st.h (rho G st.t (trO y)).canon st.h :=
  OpOk.val hs.inv (u := a.eval y) (by rcases ho with ho | ho <;> simp [execOp, ho]) (hs.opd y).canon (by rw [refs_canon]; exact hs.opdRefs y)

theorem pick_ok {o : Oper} {c y z : Operand} (ho : o.op = .pick c y z) (hs : RelS G x st a) {b : Bool} (hc : rho G st.t (trO c) = .s (.bool b)) :
    OpOk P o a G x st.h (if b then rho G st.t (trO y) else rho G st.t (trO z)) st.h := by
  have h1 : a.eval c = .bool b := (hc ▸ hs.opd c : RelV x st.h (.s (.bool b)) _).s_inv
  cases b
  · exact OpOk.val hs.inv (u := a.eval z) (by simp [execOp, ho, h1, asBool]) (hs.opd z) (hs.opdRefs z)
  · exact OpOk.val hs.inv (u := a.eval y) (by simp [execOp, ho, h1, asBool]) (hs.opd y) (hs.opdRefs y)

theorem nilc_ok {o : Oper} {y : Operand} (ho : o.op = .nilCheck y) (hs : RelS G x st a) {v : AV} {al : List (Nat × Obj)} {F : FnEv} (he : evP G st.t F (.nilc (trO y)) = some (v, al)) :
    al = [] ∧ OpOk P o a G x st.h v st.h := by
  have hr := hs.opd y
  have hl := hs.opdRefs y
  simp only [evP] at he
  split at he <;> first | (simp at he; done) | skip
  all_goals
    rename_i hq
    injection he with he
    injection he with h1 h2
    subst h1 h2
    refine ⟨rfl, ?_⟩
    rw [hq] at hr hl
    refine OpOk.val hs.inv (u := a.eval y) ?_ hr hl
  · cases hr with
    | ptr id off v hv hr =>
      generalize hu : a.eval y = u at hv
      cases u <;> simp [Value.isPtr] at hv
      rename_i p
      cases p <;> simp at hv
      simp [execOp, ho, hu]
  · cases hr with
    | eptr id n i k v hv _ hr =>
      generalize hu : a.eval y = u at hv
      cases u <;> simp [Value.isPtr] at hv
      rename_i p
      cases p <;> simp at hv
      simp [execOp, ho, hu]
  · generalize hu : a.eval y = u at hr
    cases hr
    simp [execOp, ho, hu]
  · generalize hu : a.eval y = u at hr
    cases hr
    simp [execOp, ho, hu]

theorem un_ok {o : Oper} {y : Operand} {op : UnOp} {t : TypeId} (ho : o.op = .unOp op t y) (hs : RelS G x st a) {v : Value} (he : unA op (rho G st.t (trO y)) = some v) : OpOk P o a G x st.h (.s v) st.h := by
  have hr := hs.opd y
  refine OpOk.val hs.inv (u := v) ?_ (.s v) (by simp [AV.refs])
  revert he hr
  generalize rho G st.t (trO y) = q
  intro he hr
  unfold unA at he
  split at he
  · injection he with he; subst he
    have h1 := hr.s_inv
    simp [execOp, ho, h1, Op.unary, Op.intArith]
  · have h1 := hr.s_inv
    rename_i k n
    obtain ⟨r, hb, rfl⟩ := Option.map_eq_some_iff.1 he
    simp only [bitsI, Option.some.injEq] at hb
    subst hb
    simp [execOp, ho, h1, Op.unary, Op.intBits]
  · injection he with he; subst he
    have h1 := hr.s_inv
    simp [execOp, ho, h1, Op.unary]
  · simp at he

theorem conv_ok {o : Oper} {y : Operand} {s d : TypeId} {k : IntKind} (ho : o.op = .convert s d y) (h1 : ∃ ds, P.underlying s = some ds) (h2 : P.underlying d = some (.int k)) (hs : RelS G x st a) {k' : IntKind} {n : Int}
    (he : rho G st.t (trO y) = .s (.int k' n)) : OpOk P o a G x st.h (.s (.int k (k.wrap n))) st.h := by
  have hr := hs.opd y
  rw [he] at hr
  obtain ⟨ds, h1⟩ := h1
  refine OpOk.val hs.inv (u := .int k (k.wrap n)) ?_ (.s _) (by simp [AV.refs])
  simp [execOp, ho, hr.s_inv, convert, underlying, h1, h2, Conv.intToInt]

theorem mki_ok {o : Oper} {y : Operand} {t : TypeId} (ho : o.op = .makeInterface t y) (ht : ∃ d, P.underlying t = some d ∧ (∀ ms, d ≠ .interface ms)) (hs : RelS G x st a) {v : AV} {al : List (Nat × Obj)} {F : FnEv}
    (he : evP G st.t F (.mki t (trO y)) = some (v, al)) : al = [] ∧ OpOk P o a G x st.h v st.h := by
  obtain ⟨d, h1, h2⟩ := ht
  have hrun : (execOp a.eval o).run P x.w = .ok (.value (.iface t (a.eval y))) x.w := by
    cases d <;> first | exact absurd rfl (h2 _) | simp [execOp, ho, Instr.makeInterface, underlying, h1]
  have hr := hs.opd y
  have hl := hs.opdRefs y
  simp only [evP] at he
  split at he
  · rename_i u hq
    rw [hq] at hr
    split at he
    · injection he with he
      injection he with h3 h4
      subst h3 h4
      refine ⟨rfl, OpOk.val hs.inv hrun ?_ (by simp [AV.refs])⟩
      rw [hr.s_inv]
      exact .s _
    · simp at he
  · rename_i id off hq
    injection he with he
    injection he with h3 h4
    subst h3 h4
    rw [hq] at hr hl
    exact ⟨rfl, OpOk.val hs.inv hrun (.ifc t _ _ hr) (by simpa [AV.refs] using hl)⟩
  · simp at he

theorem mkf_ok {o : Oper} {f : FuncId} {caps : Array Operand} (ho : o.op = .makeFunc (.func f) #[] caps) (hs : RelS G x st a) : OpOk P o a G x st.h (.clos f ((caps.toList.map trO).map (rho G st.t))) st.h := by
  refine OpOk.val hs.inv (u := .func (.func f) #[] (caps.map a.eval)) (by simp [execOp, ho, Instr.makeFunc]) ?_ ?_
  · have hc : caps.map a.eval = (caps.toList.map a.eval).toArray := by apply Array.ext'; simp
    rw [hc]
    refine .clos f _ _ (by simp) fun i v u h1 h2 => ?_
    simp only [List.map_map, List.getElem?_map, Option.map_eq_some_iff] at h1 h2
    obtain ⟨q, h3, rfl⟩ := h1
    obtain ⟨q', h4, rfl⟩ := h2
    rw [h3] at h4
    injection h4 with h4
    subst h4
    exact hs.opd q
  · intro id hid
    simp only [AV.refs] at hid
    obtain ⟨i, v, h1, h2⟩ := mem_refsL_iff.1 hid
    simp only [List.map_map, List.getElem?_map, Option.map_eq_some_iff] at h1
    obtain ⟨q, _, rfl⟩ := h1
    exact hs.opdRefs q id h2

theorem ext_ok {o : Oper} {y : Operand} {i : Nat} (ho : o.op = .extract y i) (hs : RelS G x st a) {l : List AV} {v : AV} (hq : rho G st.t (trO y) = .tup l) (hv : l[i]? = some v) : OpOk P o a G x st.h v st.h := by
  have hr := hs.opd y
  have hl := hs.opdRefs y
  rw [hq] at hr hl
  obtain ⟨vs, hu, hlen, hrel⟩ := hr.tup_inv
  have hi : i < vs.length := hlen ▸ (List.getElem?_eq_some_iff.1 hv).1
  refine OpOk.val hs.inv (u := vs[i]) ?_ (hrel i v _ hv (List.getElem?_eq_getElem hi)) fun id hid => hl id (by simp only [AV.refs]; exact mem_refsL hv hid)
  simp [execOp, ho, hu, Instr.extract, hi]

theorem fieldPlace_run {w : World} {p : Addr} {f : Field} {n : Nat} (hn : (P.info? f.type).map (·.size) = some (n + 1)) : (fieldPlace p f).run P w = .ok (p.add f.offset) w := by
  obtain ⟨i, hi, hs⟩ := Option.map_eq_some_iff.1 hn
  simp [fieldPlace, sizeOf, typeInfo, hi, hs]

theorem isPtr_some {u : Value} (h : Value.isPtr u) : ∃ p, u = .pointer (some p) := by
  cases u <;> simp [Value.isPtr] at h
  rename_i p
  cases p <;> simp at h
  exact ⟨_, rfl⟩

theorem daddr_drop {h : Heap} {old : Bool} {l : List C} {u : Value} (hr : RelV x h (.daddr old l) u) : ∃ b o, u = .pointer (some ⟨b, o, none⟩) ∧ ∀ n, RelV x h (.daddr old (l.drop n)) (.pointer (some ⟨b, o + n, none⟩)) := by
  cases hr with
  | daddr old l b o vals hc hr =>
    refine ⟨b, o, rfl, fun n => .daddr old (l.drop n) b (o + n) (fun j => vals (n + j)) (fun j hj => ?_) fun j c hc' => hr (n + j) c (by simpa [List.getElem?_drop] using hc')⟩
    have := hc (n + j) (by simp at hj; omega)
    rw [← Nat.add_assoc] at this
    exact this

theorem fa_ok {o : Oper} {s : TypeId} {y : Operand} {i : Nat} {fs : Array Field} {f : Field} {n : Nat} (ho : o.op = .fieldAddr s y i) (h1 : P.underlying s = some (.struct fs)) (hf : fs[i]? = some f)
    (hn : (P.info? f.type).map (·.size) = some (n + 1)) (hs : RelS G x st a) {v : AV} {al : List (Nat × Obj)} {F : FnEv} (he : evP G st.t F (.fa f.offset (trO y)) = some (v, al)) :
    al = [] ∧ OpOk P o a G x st.h v st.h := by
  have hr := hs.opd y
  have hl := hs.opdRefs y
  have hrun : ∀ p, a.eval y = .pointer (some p) → (execOp a.eval o).run P x.w = .ok (.value (.pointer (some (p.add f.offset)))) x.w := fun p hp => by
    simp [execOp, ho, Instr.fieldAt, underlying, h1, hf, hp, Instr.sureAddr, fieldPlace_run hn]
  simp only [evP] at he
  split at he <;> first | (simp at he; done) | skip
  all_goals
    rename_i hq
    injection he with he
    injection he with h3 h4
    subst h3 h4
    refine ⟨rfl, ?_⟩
    rw [hq] at hr hl
  · cases hr with
    | ptr id off v hv hr =>
      obtain ⟨p, hp⟩ := isPtr_some hv
      refine OpOk.val hs.inv (hrun p hp) (.ptr _ _ _ trivial fun cs hc => ?_) hl
      have := hr cs hc
      rw [hp] at this
      injection this with this
      injection this with this
      rw [this, Addr.add_lit]
  · cases hr with
    | eptr id n i k v hv hle hr =>
      obtain ⟨p, hp⟩ := isPtr_some hv
      refine OpOk.val hs.inv (hrun p hp) (.eptr _ _ _ _ _ trivial hle fun e s' o' f' l hc hl' => ?_) hl
      have := hr e s' o' f' l hc hl'
      rw [hp] at this
      injection this with this
      injection this with this
      rw [this, Addr.add_lit, Nat.add_assoc]
  · obtain ⟨b, o', hu, hd⟩ := daddr_drop hr
    refine OpOk.val hs.inv (hrun _ hu) ?_ (by simp [AV.refs])
    rw [Addr.add_lit]
    exact hd _

/-! ### Operations on whole numbers, strings, and so on -/
theorem cmpI_run {op : BinOp} {n m : Int} {b : Bool} {w : World} (he : cmpI op n m = some b) : (Op.intCmp op n m).run P w = .ok (.bool b) w := by
  cases op <;> simp [cmpI] at he <;> subst he <;> simp [Op.intCmp]

theorem shiftI_run {op : BinOp} {k k' : IntKind} {n m r : Int} {w : World} (he : shiftI k op n m = some r) : (Op.shift op k n k' m).run P w = .ok (.int k r) w := by
  unfold shiftI at he
  split at he
  · simp at he
  · rename_i hm
    cases op <;> simp at he <;> subst he <;> simp [Op.shift, hm]

theorem arithI_run {op : BinOp} {k : IntKind} {n m r : Int} {xt : TypeId} {w : World} (he : arithI k op n m = some r) : (binOp op xt (.int k n) (.int k m)).run P w = .ok (.int k r) w := by
  cases op <;> simp only [arithI, bitsI] at he
  case quo | rem =>
    split at he
    · simp at he
    · rename_i hm
      injection he with he
      subst he
      simp [binOp, Op.intDiv, hm]
  all_goals first
    | (injection he with he; subst he; simp [binOp, Op.intArith, Op.intBits]; done)
    | (simp at he; done)

theorem strOp_run {op : BinOp} {s u : ByteArray} {r : Value} {w : World} (he : strOp op s u = some r) : (Op.stringOp op s u).run P w = .ok r w := by
  cases op <;> simp only [strOp] at he
  case add =>
    split at he
    · simp at he
    · rename_i hm
      injection he with he
      subst he
      simp only [Op.stringOp]
      rw [if_neg hm]
      rfl
  all_goals first
    | (simp at he; done)
    | (injection he with he; subst he; rfl)

/-- What the comparison's type says of the program. -/
def TKOk (P : Program) (xt : TypeId) (cst : Bool) : TK → Prop
  | .plain => True
  | .bool => P.underlying xt = some .bool
  | .iface e c => (∃ ms, P.underlying xt = some (.interface ms)) ∧ (∃ k, P.underlying e = some (.int k)) ∧ (∃ i, P.info? e = some i ∧ i.comparable = true) ∧ (c = true → cst = true)
  | .ptr => ∃ e, P.underlying xt = some (.pointer e)
  | .slice => ∃ e, P.underlying xt = some (.slice e)
  | .arr n => ∃ e k i, P.underlying xt = some (.array n e) ∧ P.underlying e = some (.int k) ∧ P.info? e = some i ∧ i.size = 1 ∧ P.eqGuardType P.depth xt = false

def isConst : Operand → Bool
  | .const _ => true
  | _ => false

theorem eqGuard_run {op : BinOp} {xt : TypeId} {y z : Operand} {u v : Value} {w : World} (h1 : u = .nilIface → v = .nilIface → (isConst y || isConst z) = true) (h2 : ∀ c d, u = .agg c → v = .agg d → P.eqGuardType P.depth xt = false) :
    (eqGuard op xt y z u v).run P w = .ok () w := by
  by_cases hop : op = .eql ∨ op = .neq
  · have hm : ∀ (α : Type) (p q : α), (match op with | .eql => p | .neq => p | _ => q) = p := fun α p q => by rcases hop with rfl | rfl <;> rfl
    cases u <;> cases v <;> first
      | (rcases hop with rfl | rfl <;> rfl)
      | skip
    · have := h1 rfl rfl
      rcases hop with rfl | rfl <;> cases y <;> cases z <;> first
        | (simp [isConst] at this; done)
        | rfl
    · have := h2 _ _ rfl rfl
      exact run_eqGuard_agg w op xt y z _ _ this
  · cases op <;> first
      | rfl
      | simp at hop

theorem negIf_run {op : BinOp} {b r : Bool} {xt : TypeId} {u v : Value} {w : World} (hn : negIf op b = some r) (hq : (Op.equal xt u v).run P w = .ok b w)
    (hnot : ∀ k n, u ≠ .int k n) (hf : ∀ k n, u ≠ .float k n) (hc : ∀ k m n, u ≠ .complex k m n) (hs : ∀ s, u ≠ .string s) : (binOp op xt u v).run P w = .ok (.bool r) w := by
  cases op <;> simp [negIf] at hn <;> subst hn <;> cases u <;> first
    | exact absurd rfl (hnot _ _)
    | exact absurd rfl (hf _ _)
    | exact absurd rfl (hc _ _ _)
    | exact absurd rfl (hs _)
    | (simp [binOp, hq])

theorem eqIface_runIn (d : Nat) {e : TypeId} {c : Bool} {u v : Value} {b : Bool} {xt : TypeId} {cst : Bool} {w : World} (hb : eqIface e c u v = some b) (ht : TKOk P xt cst (.iface e c)) : (Op.equalIn (d + 1 + 1) xt u v).run P w = .ok b w := by
  obtain ⟨⟨ms, h1⟩, ⟨k, h2⟩, ⟨i, h3, h4⟩, _⟩ := ht
  unfold eqIface at hb
  split at hb
  · split at hb
    · injection hb with hb; subst hb
      simp only [Op.equalIn, Sem.run_bind, run_underlying h1, Result.andThen_ok, Sem.run_pure]
    · simp at hb
  · injection hb with hb; subst hb
    simp only [Op.equalIn, Sem.run_bind, run_underlying h1, Result.andThen_ok, Sem.run_pure]
  · injection hb with hb; subst hb
    simp only [Op.equalIn, Sem.run_bind, run_underlying h1, Result.andThen_ok, Sem.run_pure]
  · rename_i t k1 n u' k2 m
    by_cases htu : t = u'
    · subst htu
      rw [if_pos rfl] at hb
      by_cases hk : t = e ∧ k1 = k2
      · obtain ⟨rfl, rfl⟩ := hk
        rw [if_pos ⟨rfl, rfl⟩] at hb
        injection hb with hb; subst hb
        have h5 : (typeInfo t).run P w = .ok i w := by simp [typeInfo, h3]
        have h6 := run_equalIn_int w d t k1 k n m h2
        generalize d + 1 = q at h6
        simp only [Op.equalIn, Sem.run_bind, run_underlying h1, Result.andThen_ok]
        simp [h5, h4, h6]
      · rw [if_neg hk] at hb; simp at hb
    · rw [if_neg htu] at hb
      injection hb with hb; subst hb
      simp only [Op.equalIn, Sem.run_bind, run_underlying h1, Result.andThen_ok]
      simp [htu]
  · simp at hb

theorem eqIface_run {e : TypeId} {c : Bool} {u v : Value} {b : Bool} {xt : TypeId} {cst : Bool} {w : World} (hb : eqIface e c u v = some b) (ht : TKOk P xt cst (.iface e c)) : (Op.equal xt u v).run P w = .ok b w :=
  eqIface_runIn 9998 hb ht

theorem equalPtr_runIn (d : Nat) {xt e : TypeId} {w : World} (ht : P.underlying xt = some (.pointer e)) : (Op.equalIn (d + 1) xt (.pointer none) (.pointer none)).run P w = .ok true w := by
  simp [Op.equalIn, underlying, ht]
theorem equalPtrNil_runIn (d : Nat) {xt e : TypeId} {p : Addr} {w : World} (ht : P.underlying xt = some (.pointer e)) : (Op.equalIn (d + 1) xt (.pointer (some p)) (.pointer none)).run P w = .ok false w := by
  simp [Op.equalIn, underlying, ht]

theorem equalIfcNil_runIn (d : Nat) {xt : TypeId} {ms : Array (String × TypeId)} {t : TypeId} {v : Value} {w : World} (ht : P.underlying xt = some (.interface ms)) : (Op.equalIn (d + 1) xt (.iface t v) .nilIface).run P w = .ok false w := by
  simp [Op.equalIn, underlying, ht]

theorem binV_run {op : BinOp} {u v r : Value} {xt : TypeId} {tk : TK} {cst : Bool} {w : World} (he : binV tk op u v = some r) (ht : TKOk P xt cst tk) : (binOp op xt u v).run P w = .ok r w := by
  unfold binV at he
  split at he
  · rename_i k n k' m
    cases op <;> simp only [Option.map_eq_some_iff] at he
    case shl | shr =>
      obtain ⟨q, h1, rfl⟩ := he
      simp [binOp, shiftI_run h1]
    case eql | neq | lss | leq | gtr | geq =>
      split at he
      · rename_i hk
        subst hk
        obtain ⟨q, h1, rfl⟩ := Option.map_eq_some_iff.1 he
        simp [binOp, cmpI_run h1]
      · simp at he
    all_goals
      split at he
      · rename_i hk
        subst hk
        obtain ⟨q, h1, rfl⟩ := Option.map_eq_some_iff.1 he
        exact arithI_run h1
      · simp at he
  · have := strOp_run (P := P) (w := w) he
    cases op <;> simpa [binOp] using this
  · rename_i p q
    cases tk <;> simp only [Option.map_eq_some_iff] at he <;> try (simp at he; done)
    obtain ⟨b, h1, rfl⟩ := he
    exact negIf_run h1 (run_equalIn_bool w 9999 xt p q ht) (by simp) (by simp) (by simp) (by simp)
  · cases tk <;> simp only [Option.map_eq_some_iff] at he <;> try (simp at he; done)
    · rename_i e c
      obtain ⟨b, h1, rfl⟩ := he
      obtain ⟨b', h2, h3⟩ := Option.bind_eq_some_iff.1 h1
      exact negIf_run h3 (eqIface_run h2 ht) (by rintro k n rfl; simp [eqIface] at h2) (by rintro k n rfl; simp [eqIface] at h2) (by rintro k m n rfl; simp [eqIface] at h2) (by rintro q rfl; simp [eqIface] at h2)
    · split at he
      · obtain ⟨b, h1, rfl⟩ := Option.map_eq_some_iff.1 he
        obtain ⟨e, ht⟩ := ht
        exact negIf_run h1 (equalPtr_runIn 9999 ht) (by simp) (by simp) (by simp) (by simp)
      · simp at he

theorem ints_rel {h : Heap} : ∀ {l : List AV} {as : List (IntKind × Int)} {vs : List Value}, ints l = some as → l.length = vs.length → (∀ (i : Nat) (a : AV) (v : Value), l[i]? = some a → vs[i]? = some v → RelV x h a v) →
    vs = as.map fun p => Value.int p.1 p.2
  | [], as, vs, he, hl, _ => by
    simp [ints] at he
    subst he
    cases vs <;> simp_all
  | a :: l, as, vs, he, hl, hr => by
    cases vs with
    | nil => simp at hl
    | cons v vs =>
      have h0 := hr 0 a v rfl rfl
      cases a <;> first | (simp [ints] at he; done) | skip
      rename_i u
      cases u <;> first | (simp [ints] at he; done) | skip
      rename_i k n
      simp only [ints] at he
      split at he
      · rename_i r hr'
        injection he with he
        subst he
        have := ints_rel (l := l) (vs := vs) hr' (by simpa using hl) fun i a v h1 h2 => hr (i + 1) a v (by simpa using h1) (by simpa using h2)
        rw [this, h0.s_inv]
        rfl
      · simp at he

theorem eqItems_run (d : Nat) {e : TypeId} {k0 : IntKind} {w : World} (h2 : P.underlying e = some (.int k0)) (xs ys : Array Value) : ∀ (m k : Nat) (as bs : List (IntKind × Int)) (r : Bool), xs.toList.drop k = (as.map fun p => Value.int p.1 p.2) → ys.toList.drop k = (bs.map fun p => Value.int p.1 p.2) →
    as.length = m → bs.length = m → eqInts as bs = some r → (Op.eqItems (d + 1) e 1 xs ys (List.range' k m)).run P w = .ok r w
  | 0, k, as, bs, r, _, _, h5, h6, h7 => by
    cases as <;> cases bs <;> simp_all [eqInts, Op.eqItems]
  | m + 1, k, as, bs, r, h3, h4, h5, h6, h7 => by
    cases as with
    | nil => simp at h5
    | cons p as =>
      cases bs with
      | nil => simp at h6
      | cons q bs =>
        have hx : xs[k]? = some (.int p.1 p.2) := by
          have := congrArg (fun l : List Value => l[0]?) h3
          simpa [List.getElem?_drop] using this
        have hy : ys[k]? = some (.int q.1 q.2) := by
          have := congrArg (fun l : List Value => l[0]?) h4
          simpa [List.getElem?_drop] using this
        have hx' : xs.toList.drop (k + 1) = as.map fun p => Value.int p.1 p.2 := by
          have := congrArg (List.drop 1) h3
          simpa [List.drop_drop] using this
        have hy' : ys.toList.drop (k + 1) = bs.map fun p => Value.int p.1 p.2 := by
          have := congrArg (List.drop 1) h4
          simpa [List.drop_drop] using this
        obtain ⟨p1, p2⟩ := p
        obtain ⟨q1, q2⟩ := q
        simp only [eqInts] at h7
        split at h7
        · rename_i hk
          subst hk
          split at h7
          · rename_i r' hr'
            injection h7 with h7
            have ih := eqItems_run d (w := w) h2 xs ys m (k + 1) as bs r' hx' hy' (by simpa using h5) (by simpa using h6) hr'
            have hp : ∀ (zs : Array Value) (u : Value), zs[k]? = some u → (part e zs (k * 1)).run P w = .ok u w := fun zs u hu => by
              simp only [part, isAgg, Sem.run_bind, run_underlying h2, Result.andThen_ok, Nat.mul_one]
              simp [hu]
            rw [List.range'_succ]
            simp only [Op.eqItems, Sem.run_bind, hp xs _ hx, hp ys _ hy, Result.andThen_ok, run_equalIn_int w d e p1 k0 p2 q2 h2]
            by_cases he : p2 = q2
            · subst he
              simp at h7
              subst h7
              simpa using ih
            · have : (p2 == q2) = false := by simpa using he
              rw [this] at h7 ⊢
              simp at h7
              subst h7
              simp
          · simp at h7
        · simp at h7

theorem equalArr_run {tk : TK} {n : Nat} {xt : TypeId} {cst : Bool} {as bs : List (IntKind × Int)} {r : Bool} {w : World} (htk : tk = .arr n) (ht : TKOk P xt cst tk) (h5 : as.length = n) (h6 : bs.length = n) (h7 : eqInts as bs = some r) :
    (Op.equal xt (.agg (as.map fun p => Value.int p.1 p.2).toArray) (.agg (bs.map fun p => Value.int p.1 p.2).toArray)).run P w = .ok r w := by
  subst htk
  obtain ⟨e, k, i, h1, h2, h3, h4, _⟩ := ht
  have hc : P.cellsOf e = 1 := by simp [Program.cellsOf, h3, h4]
  have := run_equalIn_array (P := P) w 9999 (as.map fun p => Value.int p.1 p.2).toArray (bs.map fun p => Value.int p.1 p.2).toArray h1 h3
  rw [hc] at this
  refine this.trans ?_
  rw [List.range_eq_range']
  exact eqItems_run 9998 h2 _ _ n 0 as bs r (by simp) (by simp) h5 h6 h7

theorem bin_ok {o : Oper} {y z : Operand} {op : BinOp} {xt yt : TypeId} {tk : TK} (ho : o.op = .binOp op xt y z yt) (ht : TKOk P xt (isConst y || isConst z) tk) (hs : RelS G x st a) {v : Value}
    (he : binA tk op (rho G st.t (trO y)) (rho G st.t (trO z)) = some v) : OpOk P o a G x st.h (.s v) st.h := by
  have hy := hs.opd y
  have hz := hs.opd z
  have hrun : ∀ (h1 : a.eval y = .nilIface → a.eval z = .nilIface → (isConst y || isConst z) = true) (h2 : ∀ c d, a.eval y = .agg c → a.eval z = .agg d → P.eqGuardType P.depth xt = false)
      (h3 : (binOp op xt (a.eval y) (a.eval z)).run P x.w = .ok v x.w), (execOp a.eval o).run P x.w = .ok (.value v) x.w := fun h1 h2 h3 => by
    simp only [execOp, ho, Sem.run_bind, eqGuard_run h1 h2, Result.andThen_ok, h3, Sem.run_pure]
  refine OpOk.val hs.inv ?_ (.s v) (by simp [AV.refs])
  revert he hy hz
  generalize rho G st.t (trO y) = q1
  generalize rho G st.t (trO z) = q2
  intro he hy hz
  unfold binA at he
  split at he
  · rename_i u1 u2
    rw [hy.s_inv, hz.s_inv] at hrun
    refine hrun ?_ ?_ (binV_run he ht)
    · rintro rfl rfl
      simp only [binV] at he
      cases tk <;> simp at he
      rename_i e c
      have := ht.2.2.2
      cases c <;> simp [eqIface] at he
      exact this rfl
    · rintro c d rfl rfl
      simp only [binV] at he
      cases tk <;> simp [eqIface] at he
  · split at he
    · rename_i l1 l2 n
      split at he
      · rename_i hlen
        split at he
        · rename_i as bs h1 h2
          obtain ⟨vs, hv, hvl, hvr⟩ := hy.agg_inv
          obtain ⟨us, hu, hul, hur⟩ := hz.agg_inv
          have e1 := ints_rel h1 hvl hvr
          have e2 := ints_rel h2 hul hur
          obtain ⟨b, hb, rfl⟩ := Option.map_eq_some_iff.1 he
          obtain ⟨b', hb1, hb2⟩ := Option.bind_eq_some_iff.1 hb
          have hla : as.length = n := by
            have := congrArg List.length e1
            simp at this
            omega
          have hlb : bs.length = n := by
            have := congrArg List.length e2
            simp at this
            omega
          rw [hv, hu] at hrun
          refine hrun (by simp) (fun _ _ _ _ => by obtain ⟨_, _, _, _, _, _, _, h⟩ := ht; exact h) ?_
          rw [e1, e2]
          exact negIf_run hb2 (equalArr_run rfl ht hla hlb hb1) (by simp) (by simp) (by simp) (by simp)
        · simp at he
      · simp at he
    · simp at he
  · split at he
    · obtain ⟨b, hb, rfl⟩ := Option.map_eq_some_iff.1 he
      rw [hy.nilsl_inv, hz.nilsl_inv] at hrun
      obtain ⟨e, ht⟩ := ht
      exact hrun (by simp) (by simp) (negIf_run hb (run_equal_slice_nil x.w xt e none 0 0 ht) (by simp) (by simp) (by simp) (by simp))
    · simp at he
  · split at he
    · obtain ⟨b, hb, rfl⟩ := Option.map_eq_some_iff.1 he
      obtain ⟨e, ht⟩ := ht
      rw [hz.nilsl_inv] at hrun
      cases hy with
      | sl old l v hr =>
        obtain ⟨base, cap, hv, _, hne⟩ := hr.slice_inv
        obtain ⟨_, b0, o0, _, hbase, _⟩ := hne (by simp)
        subst hbase
        rw [hv] at hrun
        exact hrun (by simp) (by simp) (negIf_run hb (run_equal_slice_nil x.w xt e _ _ _ ht) (by simp) (by simp) (by simp) (by simp))
    · simp at he
  · split at he
    · obtain ⟨b, hb, rfl⟩ := Option.map_eq_some_iff.1 he
      obtain ⟨e, ht⟩ := ht
      rw [hz.nilsl_inv] at hrun
      generalize a.eval y = u at hy hrun
      cases hy with
      | esl a0 cap =>
        exact hrun (by simp) (by simp) (negIf_run hb (run_equal_slice_nil x.w xt e _ _ _ ht) (by simp) (by simp) (by simp) (by simp))
    · simp at he
  · split at he
    · obtain ⟨b, hb, rfl⟩ := Option.map_eq_some_iff.1 he
      obtain ⟨e, ht⟩ := ht
      rw [hz.s_inv] at hrun
      cases hy with
      | ptr id off v hv _ =>
        obtain ⟨p, hp⟩ := isPtr_some hv
        rw [hp] at hrun
        exact hrun (by simp) (by simp) (negIf_run hb (equalPtrNil_runIn 9999 ht) (by simp) (by simp) (by simp) (by simp))
    · simp at he
  · split at he
    · obtain ⟨b, hb, rfl⟩ := Option.map_eq_some_iff.1 he
      rw [hz.s_inv] at hrun
      generalize a.eval y = u at hy hrun
      cases hy with
      | ifc t a' v hr =>
        refine hrun (by simp) (by simp) (negIf_run hb ?_ (by simp) (by simp) (by simp) (by simp))
        obtain ⟨ms, h1⟩ := ht.1
        exact equalIfcNil_runIn 9999 h1
    · simp at he
  · simp at he

end
end Go.Ev
