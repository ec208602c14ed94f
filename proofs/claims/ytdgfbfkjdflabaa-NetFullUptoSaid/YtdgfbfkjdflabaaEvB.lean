/-
  The operations that look at their operands alone: what the evaluator says of them is what the model does.
-/
import Derived.Test.YtdgfbfkjdflabaaEvA
import Derived.Laws.Cells
import Derived.ChangeKeysEq
import Derived.Laws.StructEq
import Derived.Laws.Cover3
import Derived.Laws.BytesString
import Derived.Laws.Externs
import Derived.Lib.Bytealg
import Derived.KernelRfl
import Derived.Laws.MakeOwn
set_option linter.unusedSimpArgs false
set_option linter.unusedVariables false
namespace Go.Ev
def trO : Operand → O
 | .tmp t => .t t
 | .const v => .k v
 | .global g => .g g
 | .func f => .f f
theorem RelV.ofV1 (x : Cx) (h : Heap) (v : Value) : RelV x h (ofV1 v) v := by
 unfold Ev.ofV1
 split
 ·exact .nilsl
 ·exact .s _
theorem refs_ofV1 (v : Value) : (ofV1 v).refs = [] := by
 unfold Ev.ofV1
 split <;> rfl
theorem refsL_nil {l : List AV} (h : ∀ a ∈ l, a.refs = []) : refsL l = [] := by
 induction l with
 | nil => rfl
 | cons b r ih =>
  simp only [refsL]
  rw [h b (by simp), ih fun a ha => h a (by simp [ha])]
  rfl
theorem RelV.ofV (x : Cx) (h : Heap) (v : Value) : RelV x h (ofV v) v := by
 unfold Ev.ofV
 split
 ·exact .nilsl
 ·rename_i cs
  refine cast (by rw [Array.toArray_toList]) (RelV.agg (x := x) (h := h) (cs.toList.map Ev.ofV1) cs.toList (by simp) fun i a v h1 h2 => ?_)
  simp only [List.getElem?_map, h2, Option.map_some, Option.some.injEq] at h1
  subst h1
  exact .ofV1 x h v
 ·exact .s _
theorem refs_ofV (v : Value) : (ofV v).refs = [] := by
 unfold Ev.ofV
 split
 ·rfl
 ·simp only [AV.refs]
  exact refsL_nil fun a ha => by
   obtain ⟨v, _, rfl⟩ := List.mem_map.1 ha
   exact refs_ofV1 v
 ·rfl
section
variable {P : Program} {G : Cf} {x : Cx} {st : St} {a : Act}
theorem RelS.opd (hs : RelS G x st a) (y : Operand) : RelV x st.h (rho G st.t (trO y)) (a.eval y) := by
 cases y with
 | tmp t => exact hs.val t
 | const v => exact .ofV x st.h v
 | global g =>
  have key : ∀ j, j < (G.G g).length → ∃ v, x.S g j ∧ x.w.cell? ⟨g, j, none⟩ = some v ∧ ∀ c, (G.G g)[j]? = some c → Rep x.w x.S c v := fun j hj => by
   obtain ⟨h1, v, h2, h3⟩ := hs.inv.glob g j _ (List.getElem?_eq_getElem hj)
   exact ⟨v, h1, h2, fun c hc => by rw [List.getElem?_eq_getElem hj] at hc; injection hc with hc; exact hc ▸ h3⟩
  refine .daddr true (G.G g) g 0 (fun j => if h : j < (G.G g).length then Classical.choose (key j h) else undef) (fun j hj => ?_) fun j c hc => ?_
  ·have := Classical.choose_spec (key j hj)
   simp only [hj, dif_pos, Nat.zero_add]
   exact ⟨⟨this.1, .inl rfl⟩, this.2.1⟩
  ·have hj : j < (G.G g).length := (List.getElem?_eq_some_iff.1 hc).1
   have := Classical.choose_spec (key j hj)
   simp only [hj, dif_pos]
   exact (this.2.2 c hc).mono fun b o hS => ⟨⟨hS, .inl rfl⟩, rfl⟩
 | func f => exact .clos f [] [] rfl fun i a v h1 _ => by simp at h1
theorem RelS.opdRefs (hs : RelS G x st a) (y : Operand) : ∀ id ∈ (rho G st.t (trO y)).refs, (getO st.h id).isSome := by
 cases y with
 | tmp t => exact fun id hid => hs.live id (getD_mem hid)
 | const v => intro id hid; simp [trO, rho, refs_ofV] at hid
 | global g => intro id hid; simp [trO, rho, AV.refs] at hid
 | func f => intro id hid; simp [trO, rho, AV.refs, refsL] at hid
def OpOk (P : Program) (o : Oper) (a : Act) (G : Cf) (x : Cx) (h : Heap) (v : AV) (h' : Heap) : Prop :=
 ∀ (K : Act → World → Prop) (Q : Exit → Act → World → Prop),
  (∀ x' u, Inv G x' h' → Step (fun _ => True) x h x' h' → RelV x' h' v u → (∀ id ∈ v.refs, (getO h' id).isSome) → K (a.put o.dst u) x'.w) → o.wp P a x.w K Q
theorem OpOk.val {o : Oper} {h : Heap} {v : AV} {u : Value} (hi : Inv G x h) (hr : (execOp a.eval o).run P x.w = .ok (.value u) x.w) (hv : RelV x h v u) (hl : ∀ id ∈ v.refs, (getO h id).isSome) :
  OpOk P o a G x h v h := fun K Q hK => by
 unfold Oper.wp
 rw [hr]
 exact hK x u hi (Step.refl _ x h) hv hl
theorem RelV.s_inv {h : Heap} {v u : Value} (hr : RelV x h (.s v) u) : u = v := by cases hr; rfl
theorem RelV.nilsl_inv {h : Heap} {u : Value} (hr : RelV x h .nilsl u) : u = .slice none 0 0 := by cases hr; rfl
theorem RelV.agg_inv {h : Heap} {l : List AV} {u : Value} (hr : RelV x h (.agg l) u) : ∃ vs : List Value, u = .agg vs.toArray ∧ l.length = vs.length ∧ ∀ (i : Nat) (a : AV) (v : Value), l[i]? = some a → vs[i]? = some v → RelV x h a v := by
 cases hr with
 | agg l vs hl hr => exact ⟨vs, rfl, hl, hr⟩
theorem RelV.tup_inv {h : Heap} {l : List AV} {u : Value} (hr : RelV x h (.tup l) u) : ∃ vs : List Value, u = .tuple vs.toArray ∧ l.length = vs.length ∧ ∀ (i : Nat) (a : AV) (v : Value), l[i]? = some a → vs[i]? = some v → RelV x h a v := by
 cases hr with
 | tup l vs hl hr => exact ⟨vs, rfl, hl, hr⟩
theorem RelV.canon1 {x : Cx} {h : Heap} {a : AV} {v : Value} (hr : RelV x h a v) : RelV x h a.canon1 v := by
 cases a <;> simp only [AV.canon1] <;> try exact hr
 rw [hr.nilsl_inv]
 exact .sl _ _ _ (.nil none 0 fun _ => rfl)
theorem RelV.canon {x : Cx} {h : Heap} {a : AV} {v : Value} (hr : RelV x h a v) : RelV x h a.canon v := by
 cases a <;> simp only [AV.canon] <;> try exact hr.canon1
 obtain ⟨vs, rfl, hl, hr'⟩ := hr.agg_inv
 refine .agg _ vs (by simpa using hl) fun i b u h1 h2 => ?_
 rw [List.getElem?_map, Option.map_eq_some_iff] at h1
 obtain ⟨b0, h3, rfl⟩ := h1
 exact (hr' i b0 u h3 h2).canon1
theorem refs_canon1 (a : AV) : a.canon1.refs = a.refs := by cases a <;> rfl
theorem refs_canon (a : AV) : a.canon.refs = a.refs := by
 cases a <;> simp only [AV.canon] <;> try exact refs_canon1 _
 rename_i l
 simp only [AV.refs]
 induction l with
 | nil => rfl
 | cons b l ih => simp only [List.map_cons, refsL, refs_canon1, ih]
theorem Rep.slice_inv {w : World} {S : Nat → Nat → Prop} {l : List (List C)} {u : Value} (hr : Rep w S (.sl l) u) : ∃ base cap, u = .slice base l.length cap ∧ l.length ≤ cap ∧
  (l ≠ [] → ∃ sz b o, ∃ vals : Nat → Value, base = some ⟨b, o, none⟩ ∧ (∀ e ∈ l, e.length = sz) ∧ (∀ j, j < l.length * sz → S b (o + j) ∧ w.cell? ⟨b, o + j, none⟩ = some (vals j)) ∧
   ∀ (i k : Nat) (e : List C) (c : C), l[i]? = some e → e[k]? = some c → Rep w S c (vals (i * sz + k))) := by
 cases hr with
 | nil base cap h0 => exact ⟨base, cap, rfl, by simp, fun h => absurd rfl h⟩
 | sl l sz b o cap vals hne hsz hcap hc hr => exact ⟨_, cap, rfl, hcap, fun _ => ⟨sz, b, o, vals, rfl, hsz, hc, hr⟩⟩
theorem szOk_iff {sz : Nat} {l : List (List C)} : szOk sz l = true ↔ ∀ e ∈ l, e.length = sz := by
 simp [szOk]
theorem Rep.slice_nil {w : World} {S : Nat → Nat → Prop} {l : List (List C)} {n cap : Nat} (hr : Rep w S (.sl l) (.slice none n cap)) : cap = 0 := by
 cases hr with
 | nil base cap h0 => exact h0 rfl
inductive Mt (P : Program) : Op → Op1 → Prop
 | mv (x : Operand) : Mt P (.move x) (.mv (trO x))
 | asg (x : Operand) : Mt P (.assign x) (.mv (trO x))
 | pick (c a b : Operand) : Mt P (.pick c a b) (.pick (trO c) (trO a) (trO b))
 | nilc (x : Operand) : Mt P (.nilCheck x) (.nilc (trO x))
 | un (op : UnOp) (t : TypeId) (x : Operand) : Mt P (.unOp op t x) (.un op (trO x))
 | conv (s d : TypeId) (k : IntKind) (x : Operand) (hs : ∃ ds, P.underlying s = some ds) (hd : P.underlying d = some (.int k)) : Mt P (.convert s d x) (.conv k (trO x))
 | mki (t : TypeId) (x : Operand) (ht : ∃ d, P.underlying t = some d ∧ (∀ ms, d ≠ .interface ms)) : Mt P (.makeInterface t x) (.mki t (trO x))
 | mkf (f : FuncId) (caps : Array Operand) : Mt P (.makeFunc (.func f) #[] caps) (.mkf f (caps.toList.map trO))
 | fa (s : TypeId) (x : Operand) (i : Nat) (fs : Array Field) (f : Field) (n : Nat) (hs : P.underlying s = some (.struct fs)) (hf : fs[i]? = some f) (hn : (P.info? f.type).map (·.size) = some (n + 1)) : Mt P (.fieldAddr s x i) (.fa f.offset (trO x))
 | ext (x : Operand) (i : Nat) : Mt P (.extract x i) (.ext i (trO x))
theorem mv_ok {o : Oper} {y : Operand} (ho : o.op = .move y ∨ o.op = .assign y) (hs : RelS G x st a) : OpOk P o a G x st.h (rho G st.t (trO y)) st.h :=
 OpOk.val hs.inv (u := a.eval y) (by rcases ho with ho | ho <;> simp [execOp, ho]) (hs.opd y) (hs.opdRefs y)
theorem cn_ok {o : Oper} {y : Operand} (ho : o.op = .move y ∨ o.op = .assign y) (hs : RelS G x st a) : OpOk P o a G x st.h (rho G st.t (trO y)).canon st.h :=
 OpOk.val hs.inv (u := a.eval y) (by rcases ho with ho | ho <;> simp [execOp, ho]) (hs.opd y).canon (by rw [refs_canon]; exact hs.opdRefs y)
theorem pick_ok {o : Oper} {c y z : Operand} (ho : o.op = .pick c y z) (hs : RelS G x st a) {b : Bool} (hc : rho G st.t (trO c) = .s (.bool b)) :
  OpOk P o a G x st.h (if b then rho G st.t (trO y) else rho G st.t (trO z)) st.h := by
 have h1 : a.eval c = .bool b := (hc ▸ hs.opd c : RelV x st.h (.s (.bool b)) _).s_inv
 cases b
 ·exact OpOk.val hs.inv (u := a.eval z) (by simp [execOp, ho, h1, asBool]) (hs.opd z) (hs.opdRefs z)
 ·exact OpOk.val hs.inv (u := a.eval y) (by simp [execOp, ho, h1, asBool]) (hs.opd y) (hs.opdRefs y)
theorem nilc_ok {o : Oper} {y : Operand} (ho : o.op = .nilCheck y) (hs : RelS G x st a) {v : AV} {al : List (Nat × Obj)} {F : FnEv} (he : evP G st.t F (.nilc (trO y)) = some (v, al)) :
  al = [] ∧ OpOk P o a G x st.h v st.h := by
 have hr := hs.opd y
 have hl := hs.opdRefs y
 simp only [evP] at he
 split at he <;> first | (simp at he; done) | skip
 all_goals
  rename_i hq
  injection he with he
  injection he with h1 h2
  subst h1 h2
  refine ⟨rfl, ?_⟩
  rw [hq] at hr hl
  refine OpOk.val hs.inv (u := a.eval y) ?_ hr hl
 ·cases hr with
  | ptr id off v hv hr =>
   generalize hu : a.eval y = u at hv
   cases u <;> simp [Value.isPtr] at hv
   rename_i p
   cases p <;> simp at hv
   simp [execOp, ho, hu]
 ·cases hr with
  | eptr id n i k v hv _ hr =>
   generalize hu : a.eval y = u at hv
   cases u <;> simp [Value.isPtr] at hv
   rename_i p
   cases p <;> simp at hv
   simp [execOp, ho, hu]
 ·generalize hu : a.eval y = u at hr
  cases hr
  simp [execOp, ho, hu]
 ·generalize hu : a.eval y = u at hr
  cases hr
  simp [execOp, ho, hu]
theorem un_ok {o : Oper} {y : Operand} {op : UnOp} {t : TypeId} (ho : o.op = .unOp op t y) (hs : RelS G x st a) {v : Value} (he : unA op (rho G st.t (trO y)) = some v) : OpOk P o a G x st.h (.s v) st.h := by
 have hr := hs.opd y
 refine OpOk.val hs.inv (u := v) ?_ (.s v) (by simp [AV.refs])
 revert he hr
 generalize rho G st.t (trO y) = q
 intro he hr
 unfold unA at he
 split at he
 ·injection he with he; subst he
  have h1 := hr.s_inv
  simp [execOp, ho, h1, Op.unary, Op.intArith]
 ·have h1 := hr.s_inv
  rename_i k n
  obtain ⟨r, hb, rfl⟩ := Option.map_eq_some_iff.1 he
  simp only [bitsI, Option.some.injEq] at hb
  subst hb
  simp [execOp, ho, h1, Op.unary, Op.intBits]
 ·injection he with he; subst he
  have h1 := hr.s_inv
  simp [execOp, ho, h1, Op.unary]
 ·simp at he
theorem conv_ok {o : Oper} {y : Operand} {s d : TypeId} {k : IntKind} (ho : o.op = .convert s d y) (h1 : ∃ ds, P.underlying s = some ds) (h2 : P.underlying d = some (.int k)) (hs : RelS G x st a) {k' : IntKind} {n : Int}
  (he : rho G st.t (trO y) = .s (.int k' n)) : OpOk P o a G x st.h (.s (.int k (k.wrap n))) st.h := by
 have hr := hs.opd y
 rw [he] at hr
 obtain ⟨ds, h1⟩ := h1
 refine OpOk.val hs.inv (u := .int k (k.wrap n)) ?_ (.s _) (by simp [AV.refs])
 simp [execOp, ho, hr.s_inv, convert, underlying, h1, h2, Conv.intToInt]
theorem mki_ok {o : Oper} {y : Operand} {t : TypeId} (ho : o.op = .makeInterface t y) (ht : ∃ d, P.underlying t = some d ∧ (∀ ms, d ≠ .interface ms)) (hs : RelS G x st a) {v : AV} {al : List (Nat × Obj)} {F : FnEv}
  (he : evP G st.t F (.mki t (trO y)) = some (v, al)) : al = [] ∧ OpOk P o a G x st.h v st.h := by
 obtain ⟨d, h1, h2⟩ := ht
 have hrun : (execOp a.eval o).run P x.w = .ok (.value (.iface t (a.eval y))) x.w := by
  cases d <;> first | exact absurd rfl (h2 _) | simp [execOp, ho, Instr.makeInterface, underlying, h1]
 have hr := hs.opd y
 have hl := hs.opdRefs y
 simp only [evP] at he
 split at he
 ·rename_i u hq
  rw [hq] at hr
  split at he
  ·injection he with he
   injection he with h3 h4
   subst h3 h4
   refine ⟨rfl, OpOk.val hs.inv hrun ?_ (by simp [AV.refs])⟩
   rw [hr.s_inv]
   exact .s _
  ·simp at he
 ·rename_i id off hq
  injection he with he
  injection he with h3 h4
  subst h3 h4
  rw [hq] at hr hl
  exact ⟨rfl, OpOk.val hs.inv hrun (.ifc t _ _ hr) (by simpa [AV.refs] using hl)⟩
 ·simp at he
theorem mkf_ok {o : Oper} {f : FuncId} {caps : Array Operand} (ho : o.op = .makeFunc (.func f) #[] caps) (hs : RelS G x st a) : OpOk P o a G x st.h (.clos f ((caps.toList.map trO).map (rho G st.t))) st.h := by
 refine OpOk.val hs.inv (u := .func (.func f) #[] (caps.map a.eval)) (by simp [execOp, ho, Instr.makeFunc]) ?_ ?_
 ·have hc : caps.map a.eval = (caps.toList.map a.eval).toArray := by apply Array.ext'; simp
  rw [hc]
  refine .clos f _ _ (by simp) fun i v u h1 h2 => ?_
  simp only [List.map_map, List.getElem?_map, Option.map_eq_some_iff] at h1 h2
  obtain ⟨q, h3, rfl⟩ := h1
  obtain ⟨q', h4, rfl⟩ := h2
  rw [h3] at h4
  injection h4 with h4
  subst h4
  exact hs.opd q
 ·intro id hid
  simp only [AV.refs] at hid
  obtain ⟨i, v, h1, h2⟩ := mem_refsL_iff.1 hid
  simp only [List.map_map, List.getElem?_map, Option.map_eq_some_iff] at h1
  obtain ⟨q, _, rfl⟩ := h1
  exact hs.opdRefs q id h2
theorem ext_ok {o : Oper} {y : Operand} {i : Nat} (ho : o.op = .extract y i) (hs : RelS G x st a) {l : List AV} {v : AV} (hq : rho G st.t (trO y) = .tup l) (hv : l[i]? = some v) : OpOk P o a G x st.h v st.h := by
 have hr := hs.opd y
 have hl := hs.opdRefs y
 rw [hq] at hr hl
 obtain ⟨vs, hu, hlen, hrel⟩ := hr.tup_inv
 have hi : i < vs.length := hlen ▸ (List.getElem?_eq_some_iff.1 hv).1
 refine OpOk.val hs.inv (u := vs[i]) ?_ (hrel i v _ hv (List.getElem?_eq_getElem hi)) fun id hid => hl id (by simp only [AV.refs]; exact mem_refsL hv hid)
 simp [execOp, ho, hu, Instr.extract, hi]
theorem fieldPlace_run {w : World} {p : Addr} {f : Field} {n : Nat} (hn : (P.info? f.type).map (·.size) = some (n + 1)) : (fieldPlace p f).run P w = .ok (p.add f.offset) w := by
 obtain ⟨i, hi, hs⟩ := Option.map_eq_some_iff.1 hn
 simp [fieldPlace, sizeOf, typeInfo, hi, hs]
theorem isPtr_some {u : Value} (h : Value.isPtr u) : ∃ p, u = .pointer (some p) := by
 cases u <;> simp [Value.isPtr] at h
 rename_i p
 cases p <;> simp at h
 exact ⟨_, rfl⟩
theorem daddr_drop {h : Heap} {old : Bool} {l : List C} {u : Value} (hr : RelV x h (.daddr old l) u) : ∃ b o, u = .pointer (some ⟨b, o, none⟩) ∧ ∀ n, RelV x h (.daddr old (l.drop n)) (.pointer (some ⟨b, o + n, none⟩)) := by
 cases hr with
 | daddr old l b o vals hc hr =>
  refine ⟨b, o, rfl, fun n => .daddr old (l.drop n) b (o + n) (fun j => vals (n + j)) (fun j hj => ?_) fun j c hc' => hr (n + j) c (by simpa [List.getElem?_drop] using hc')⟩
  have := hc (n + j) (by simp at hj; omega)
  rw [← Nat.add_assoc] at this
  exact this
theorem fa_ok {o : Oper} {s : TypeId} {y : Operand} {i : Nat} {fs : Array Field} {f : Field} {n : Nat} (ho : o.op = .fieldAddr s y i) (h1 : P.underlying s = some (.struct fs)) (hf : fs[i]? = some f)
  (hn : (P.info? f.type).map (·.size) = some (n + 1)) (hs : RelS G x st a) {v : AV} {al : List (Nat × Obj)} {F : FnEv} (he : evP G st.t F (.fa f.offset (trO y)) = some (v, al)) :
  al = [] ∧ OpOk P o a G x st.h v st.h := by
 have hr := hs.opd y
 have hl := hs.opdRefs y
 have hrun : ∀ p, a.eval y = .pointer (some p) → (execOp a.eval o).run P x.w = .ok (.value (.pointer (some (p.add f.offset)))) x.w := fun p hp => by
  simp [execOp, ho, Instr.fieldAt, underlying, h1, hf, hp, Instr.sureAddr, fieldPlace_run hn]
 simp only [evP] at he
 split at he <;> first | (simp at he; done) | skip
 all_goals
  rename_i hq
  injection he with he
  injection he with h3 h4
  subst h3 h4
  refine ⟨rfl, ?_⟩
  rw [hq] at hr hl
 ·cases hr with
  | ptr id off v hv hr hbg =>
   obtain ⟨p, hp⟩ := isPtr_some hv
   refine OpOk.val hs.inv (hrun p hp) (.ptr _ _ _ trivial (fun cs hc => ?_) fun d hc => ?_) hl
   ·have := hr cs hc
    rw [hp] at this
    injection this with this
    injection this with this
    rw [this, Addr.add_lit]
   ·have := hbg d hc
    rw [hp] at this
    injection this with this
    injection this with this
    rw [this, Addr.add_lit]
 ·cases hr with
  | eptr id n i k v hv hle hr =>
   obtain ⟨p, hp⟩ := isPtr_some hv
   refine OpOk.val hs.inv (hrun p hp) (.eptr _ _ _ _ _ trivial hle fun e s' o' f' l hc hl' => ?_) hl
   have := hr e s' o' f' l hc hl'
   rw [hp] at this
   injection this with this
   injection this with this
   rw [this, Addr.add_lit, Nat.add_assoc]
 ·obtain ⟨b, o', hu, hd⟩ := daddr_drop hr
  refine OpOk.val hs.inv (hrun _ hu) ?_ (by simp [AV.refs])
  rw [Addr.add_lit]
  exact hd _
theorem cmpI_run {op : BinOp} {n m : Int} {b : Bool} {w : World} (he : cmpI op n m = some b) : (Op.intCmp op n m).run P w = .ok (.bool b) w := by
 cases op <;> simp [cmpI] at he <;> subst he <;> simp [Op.intCmp]
theorem shiftI_run {op : BinOp} {k k' : IntKind} {n m r : Int} {w : World} (he : shiftI k op n m = some r) : (Op.shift op k n k' m).run P w = .ok (.int k r) w := by
 unfold shiftI at he
 split at he
 ·simp at he
 ·rename_i hm
  cases op <;> simp at he <;> subst he <;> simp [Op.shift, hm]
theorem arithI_run {op : BinOp} {k : IntKind} {n m r : Int} {xt : TypeId} {w : World} (he : arithI k op n m = some r) : (binOp op xt (.int k n) (.int k m)).run P w = .ok (.int k r) w := by
 cases op <;> simp only [arithI, bitsI] at he
 case quo | rem =>
  split at he
  ·simp at he
  ·rename_i hm
   injection he with he
   subst he
   simp [binOp, Op.intDiv, hm]
 all_goals first
  | (injection he with he; subst he; simp [binOp, Op.intArith, Op.intBits]; done)
  | (simp at he; done)
theorem strOp_run {op : BinOp} {s u : ByteArray} {r : Value} {w : World} (he : strOp op s u = some r) : (Op.stringOp op s u).run P w = .ok r w := by
 cases op <;> simp only [strOp] at he
 case add =>
  split at he
  ·simp at he
  ·rename_i hm
   injection he with he
   subst he
   simp only [Op.stringOp]
   rw [if_neg hm]
   rfl
 all_goals first
  | (simp at he; done)
  | (injection he with he; subst he; rfl)
def TKOk (P : Program) (xt : TypeId) (cst : Bool) : TK → Prop
 | .plain => True
 | .bool => P.underlying xt = some .bool
 | .iface e c => (∃ ms, P.underlying xt = some (.interface ms)) ∧ (∃ k, P.underlying e = some (.int k)) ∧ (∃ i, P.info? e = some i ∧ i.comparable = true) ∧ (c = true → cst = true)
 | .ptr => ∃ e, P.underlying xt = some (.pointer e)
 | .slice => ∃ e, P.underlying xt = some (.slice e)
 | .arr n => ∃ e k i, P.underlying xt = some (.array n e) ∧ P.underlying e = some (.int k) ∧ P.info? e = some i ∧ i.size = 1 ∧ P.eqGuardType P.depth xt = false
def isConst : Operand → Bool
 | .const _ => true
 | _ => false
theorem eqGuard_run {op : BinOp} {xt : TypeId} {y z : Operand} {u v : Value} {w : World} (h1 : u = .nilIface → v = .nilIface → (isConst y || isConst z) = true) (h2 : ∀ c d, u = .agg c → v = .agg d → P.eqGuardType P.depth xt = false) :
  (eqGuard op xt y z u v).run P w = .ok () w := by
 by_cases hop : op = .eql ∨ op = .neq
 ·have hm : ∀ (α : Type) (p q : α), (match op with | .eql => p | .neq => p | _ => q) = p := fun α p q => by rcases hop with rfl | rfl <;> rfl
  cases u <;> cases v <;> first
   | (rcases hop with rfl | rfl <;> rfl)
   | skip
  ·have := h1 rfl rfl
   rcases hop with rfl | rfl <;> cases y <;> cases z <;> first
    | (simp [isConst] at this; done)
    | rfl
  ·have := h2 _ _ rfl rfl
   exact run_eqGuard_agg w op xt y z _ _ this
 ·cases op <;> first
   | rfl
   | simp at hop
theorem negIf_run {op : BinOp} {b r : Bool} {xt : TypeId} {u v : Value} {w : World} (hn : negIf op b = some r) (hq : (Op.equal xt u v).run P w = .ok b w)
  (hnot : ∀ k n, u ≠ .int k n) (hf : ∀ k n, u ≠ .float k n) (hc : ∀ k m n, u ≠ .complex k m n) (hs : ∀ s, u ≠ .string s) : (binOp op xt u v).run P w = .ok (.bool r) w := by
 cases op <;> simp [negIf] at hn <;> subst hn <;> cases u <;> first
  | exact absurd rfl (hnot _ _)
  | exact absurd rfl (hf _ _)
  | exact absurd rfl (hc _ _ _)
  | exact absurd rfl (hs _)
  | (simp [binOp, hq])
theorem eqIface_runIn (d : Nat) {e : TypeId} {c : Bool} {u v : Value} {b : Bool} {xt : TypeId} {cst : Bool} {w : World} (hb : eqIface e c u v = some b) (ht : TKOk P xt cst (.iface e c)) : (Op.equalIn (d + 1 + 1) xt u v).run P w = .ok b w := by
 obtain ⟨⟨ms, h1⟩, ⟨k, h2⟩, ⟨i, h3, h4⟩, _⟩ := ht
 unfold eqIface at hb
 split at hb
 ·split at hb
  ·injection hb with hb; subst hb
   simp only [Op.equalIn, Sem.run_bind, run_underlying h1, Result.andThen_ok, Sem.run_pure]
  ·simp at hb
 ·injection hb with hb; subst hb
  simp only [Op.equalIn, Sem.run_bind, run_underlying h1, Result.andThen_ok, Sem.run_pure]
 ·injection hb with hb; subst hb
  simp only [Op.equalIn, Sem.run_bind, run_underlying h1, Result.andThen_ok, Sem.run_pure]
 ·rename_i t k1 n u' k2 m
  by_cases htu : t = u'
  ·subst htu
   rw [if_pos rfl] at hb
   by_cases hk : t = e ∧ k1 = k2
   ·obtain ⟨rfl, rfl⟩ := hk
    rw [if_pos ⟨rfl, rfl⟩] at hb
    injection hb with hb; subst hb
    have h5 : (typeInfo t).run P w = .ok i w := by simp [typeInfo, h3]
    have h6 := run_equalIn_int w d t k1 k n m h2
    generalize d + 1 = q at h6
    simp only [Op.equalIn, Sem.run_bind, run_underlying h1, Result.andThen_ok]
    simp [h5, h4, h6]
   ·rw [if_neg hk] at hb; simp at hb
  ·rw [if_neg htu] at hb
   injection hb with hb; subst hb
   simp only [Op.equalIn, Sem.run_bind, run_underlying h1, Result.andThen_ok]
   simp [htu]
 ·simp at hb
theorem eqIface_run {e : TypeId} {c : Bool} {u v : Value} {b : Bool} {xt : TypeId} {cst : Bool} {w : World} (hb : eqIface e c u v = some b) (ht : TKOk P xt cst (.iface e c)) : (Op.equal xt u v).run P w = .ok b w :=
 eqIface_runIn 9998 hb ht
theorem equalPtr_runIn (d : Nat) {xt e : TypeId} {w : World} (ht : P.underlying xt = some (.pointer e)) : (Op.equalIn (d + 1) xt (.pointer none) (.pointer none)).run P w = .ok true w := by
 simp [Op.equalIn, underlying, ht]
theorem equalPtrNil_runIn (d : Nat) {xt e : TypeId} {p : Addr} {w : World} (ht : P.underlying xt = some (.pointer e)) : (Op.equalIn (d + 1) xt (.pointer (some p)) (.pointer none)).run P w = .ok false w := by
 simp [Op.equalIn, underlying, ht]
theorem equalIfcNil_runIn (d : Nat) {xt : TypeId} {ms : Array (String × TypeId)} {t : TypeId} {v : Value} {w : World} (ht : P.underlying xt = some (.interface ms)) : (Op.equalIn (d + 1) xt (.iface t v) .nilIface).run P w = .ok false w := by
 simp [Op.equalIn, underlying, ht]
theorem binV_run {op : BinOp} {u v r : Value} {xt : TypeId} {tk : TK} {cst : Bool} {w : World} (he : binV tk op u v = some r) (ht : TKOk P xt cst tk) : (binOp op xt u v).run P w = .ok r w := by
 unfold binV at he
 split at he
 ·rename_i k n k' m
  cases op <;> simp only [Option.map_eq_some_iff] at he
  case shl | shr =>
   obtain ⟨q, h1, rfl⟩ := he
   simp [binOp, shiftI_run h1]
  case eql | neq | lss | leq | gtr | geq =>
   split at he
   ·rename_i hk
    subst hk
    obtain ⟨q, h1, rfl⟩ := Option.map_eq_some_iff.1 he
    simp [binOp, cmpI_run h1]
   ·simp at he
  all_goals
   split at he
   ·rename_i hk
    subst hk
    obtain ⟨q, h1, rfl⟩ := Option.map_eq_some_iff.1 he
    exact arithI_run h1
   ·simp at he
 ·have := strOp_run (P := P) (w := w) he
  cases op <;> simpa [binOp] using this
 ·rename_i p q
  cases tk <;> simp only [Option.map_eq_some_iff] at he <;> try (simp at he; done)
  obtain ⟨b, h1, rfl⟩ := he
  exact negIf_run h1 (run_equalIn_bool w 9999 xt p q ht) (by simp) (by simp) (by simp) (by simp)
 ·cases tk <;> simp only [Option.map_eq_some_iff] at he <;> try (simp at he; done)
  ·rename_i e c
   obtain ⟨b, h1, rfl⟩ := he
   obtain ⟨b', h2, h3⟩ := Option.bind_eq_some_iff.1 h1
   exact negIf_run h3 (eqIface_run h2 ht) (by rintro k n rfl; simp [eqIface] at h2) (by rintro k n rfl; simp [eqIface] at h2) (by rintro k m n rfl; simp [eqIface] at h2) (by rintro q rfl; simp [eqIface] at h2)
  ·split at he
   ·obtain ⟨b, h1, rfl⟩ := Option.map_eq_some_iff.1 he
    obtain ⟨e, ht⟩ := ht
    exact negIf_run h1 (equalPtr_runIn 9999 ht) (by simp) (by simp) (by simp) (by simp)
   ·simp at he
theorem ints_rel {h : Heap} : ∀ {l : List AV} {as : List (IntKind × Int)} {vs : List Value}, ints l = some as → l.length = vs.length → (∀ (i : Nat) (a : AV) (v : Value), l[i]? = some a → vs[i]? = some v → RelV x h a v) →
  vs = as.map fun p => Value.int p.1 p.2
 | [], as, vs, he, hl, _ => by
  simp [ints] at he
  subst he
  cases vs <;> simp_all
 | a :: l, as, vs, he, hl, hr => by
  cases vs with
  | nil => simp at hl
  | cons v vs =>
   have h0 := hr 0 a v rfl rfl
   cases a <;> first | (simp [ints] at he; done) | skip
   rename_i u
   cases u <;> first | (simp [ints] at he; done) | skip
   rename_i k n
   simp only [ints] at he
   split at he
   ·rename_i r hr'
    injection he with he
    subst he
    have := ints_rel (l := l) (vs := vs) hr' (by simpa using hl) fun i a v h1 h2 => hr (i + 1) a v (by simpa using h1) (by simpa using h2)
    rw [this, h0.s_inv]
    rfl
   ·simp at he
theorem eqItems_run (d : Nat) {e : TypeId} {k0 : IntKind} {w : World} (h2 : P.underlying e = some (.int k0)) (xs ys : Array Value) : ∀ (m k : Nat) (as bs : List (IntKind × Int)) (r : Bool), xs.toList.drop k = (as.map fun p => Value.int p.1 p.2) → ys.toList.drop k = (bs.map fun p => Value.int p.1 p.2) →
  as.length = m → bs.length = m → eqInts as bs = some r → (Op.eqItems (d + 1) e 1 xs ys (List.range' k m)).run P w = .ok r w
 | 0, k, as, bs, r, _, _, h5, h6, h7 => by
  cases as <;> cases bs <;> simp_all [eqInts, Op.eqItems]
 | m + 1, k, as, bs, r, h3, h4, h5, h6, h7 => by
  cases as with
  | nil => simp at h5
  | cons p as =>
   cases bs with
   | nil => simp at h6
   | cons q bs =>
    have hx : xs[k]? = some (.int p.1 p.2) := by
     have := congrArg (fun l : List Value => l[0]?) h3
     simpa [List.getElem?_drop] using this
    have hy : ys[k]? = some (.int q.1 q.2) := by
     have := congrArg (fun l : List Value => l[0]?) h4
     simpa [List.getElem?_drop] using this
    have hx' : xs.toList.drop (k + 1) = as.map fun p => Value.int p.1 p.2 := by
     have := congrArg (List.drop 1) h3
     simpa [List.drop_drop] using this
    have hy' : ys.toList.drop (k + 1) = bs.map fun p => Value.int p.1 p.2 := by
     have := congrArg (List.drop 1) h4
     simpa [List.drop_drop] using this
    obtain ⟨p1, p2⟩ := p
    obtain ⟨q1, q2⟩ := q
    simp only [eqInts] at h7
    split at h7
    ·rename_i hk
     subst hk
     split at h7
     ·rename_i r' hr'
      injection h7 with h7
      have ih := eqItems_run d (w := w) h2 xs ys m (k + 1) as bs r' hx' hy' (by simpa using h5) (by simpa using h6) hr'
      have hp : ∀ (zs : Array Value) (u : Value), zs[k]? = some u → (part e zs (k * 1)).run P w = .ok u w := fun zs u hu => by
       simp only [part, isAgg, Sem.run_bind, run_underlying h2, Result.andThen_ok, Nat.mul_one]
       simp [hu]
      rw [List.range'_succ]
      simp only [Op.eqItems, Sem.run_bind, hp xs _ hx, hp ys _ hy, Result.andThen_ok, run_equalIn_int w d e p1 k0 p2 q2 h2]
      by_cases he : p2 = q2
      ·subst he
       simp at h7
       subst h7
       simpa using ih
      ·have : (p2 == q2) = false := by simpa using he
       rw [this] at h7 ⊢
       simp at h7
       subst h7
       simp
     ·simp at h7
    ·simp at h7
theorem equalArr_run {tk : TK} {n : Nat} {xt : TypeId} {cst : Bool} {as bs : List (IntKind × Int)} {r : Bool} {w : World} (htk : tk = .arr n) (ht : TKOk P xt cst tk) (h5 : as.length = n) (h6 : bs.length = n) (h7 : eqInts as bs = some r) :
  (Op.equal xt (.agg (as.map fun p => Value.int p.1 p.2).toArray) (.agg (bs.map fun p => Value.int p.1 p.2).toArray)).run P w = .ok r w := by
 subst htk
 obtain ⟨e, k, i, h1, h2, h3, h4, _⟩ := ht
 have hc : P.cellsOf e = 1 := by simp [Program.cellsOf, h3, h4]
 have := run_equalIn_array (P := P) w 9999 (as.map fun p => Value.int p.1 p.2).toArray (bs.map fun p => Value.int p.1 p.2).toArray h1 h3
 rw [hc] at this
 refine this.trans ?_
 rw [List.range_eq_range']
 exact eqItems_run 9998 h2 _ _ n 0 as bs r (by simp) (by simp) h5 h6 h7
theorem bin_ok {o : Oper} {y z : Operand} {op : BinOp} {xt yt : TypeId} {tk : TK} (ho : o.op = .binOp op xt y z yt) (ht : TKOk P xt (isConst y || isConst z) tk) (hs : RelS G x st a) {v : Value}
  (he : binA tk op (rho G st.t (trO y)) (rho G st.t (trO z)) = some v) : OpOk P o a G x st.h (.s v) st.h := by
 have hy := hs.opd y
 have hz := hs.opd z
 have hrun : ∀ (h1 : a.eval y = .nilIface → a.eval z = .nilIface → (isConst y || isConst z) = true) (h2 : ∀ c d, a.eval y = .agg c → a.eval z = .agg d → P.eqGuardType P.depth xt = false)
   (h3 : (binOp op xt (a.eval y) (a.eval z)).run P x.w = .ok v x.w), (execOp a.eval o).run P x.w = .ok (.value v) x.w := fun h1 h2 h3 => by
  simp only [execOp, ho, Sem.run_bind, eqGuard_run h1 h2, Result.andThen_ok, h3, Sem.run_pure]
 refine OpOk.val hs.inv ?_ (.s v) (by simp [AV.refs])
 revert he hy hz
 generalize rho G st.t (trO y) = q1
 generalize rho G st.t (trO z) = q2
 intro he hy hz
 unfold binA at he
 split at he
 ·rename_i u1 u2
  rw [hy.s_inv, hz.s_inv] at hrun
  refine hrun ?_ ?_ (binV_run he ht)
  ·rintro rfl rfl
   simp only [binV] at he
   cases tk <;> simp at he
   rename_i e c
   have := ht.2.2.2
   cases c <;> simp [eqIface] at he
   exact this rfl
  ·rintro c d rfl rfl
   simp only [binV] at he
   cases tk <;> simp [eqIface] at he
 ·split at he
  ·rename_i l1 l2 n
   split at he
   ·rename_i hlen
    split at he
    ·rename_i as bs h1 h2
     obtain ⟨vs, hv, hvl, hvr⟩ := hy.agg_inv
     obtain ⟨us, hu, hul, hur⟩ := hz.agg_inv
     have e1 := ints_rel h1 hvl hvr
     have e2 := ints_rel h2 hul hur
     obtain ⟨b, hb, rfl⟩ := Option.map_eq_some_iff.1 he
     obtain ⟨b', hb1, hb2⟩ := Option.bind_eq_some_iff.1 hb
     have hla : as.length = n := by
      have := congrArg List.length e1
      simp at this
      omega
     have hlb : bs.length = n := by
      have := congrArg List.length e2
      simp at this
      omega
     rw [hv, hu] at hrun
     refine hrun (by simp) (fun _ _ _ _ => by obtain ⟨_, _, _, _, _, _, _, h⟩ := ht; exact h) ?_
     rw [e1, e2]
     exact negIf_run hb2 (equalArr_run rfl ht hla hlb hb1) (by simp) (by simp) (by simp) (by simp)
    ·simp at he
   ·simp at he
  ·simp at he
 ·split at he
  ·obtain ⟨b, hb, rfl⟩ := Option.map_eq_some_iff.1 he
   rw [hy.nilsl_inv, hz.nilsl_inv] at hrun
   obtain ⟨e, ht⟩ := ht
   exact hrun (by simp) (by simp) (negIf_run hb (run_equal_slice_nil x.w xt e none 0 0 ht) (by simp) (by simp) (by simp) (by simp))
  ·simp at he
 ·split at he
  ·obtain ⟨b, hb, rfl⟩ := Option.map_eq_some_iff.1 he
   obtain ⟨e, ht⟩ := ht
   rw [hz.nilsl_inv] at hrun
   cases hy with
   | sl old l v hr =>
    obtain ⟨base, cap, hv, _, hne⟩ := hr.slice_inv
    obtain ⟨_, b0, o0, _, hbase, _⟩ := hne (by simp)
    subst hbase
    rw [hv] at hrun
    exact hrun (by simp) (by simp) (negIf_run hb (run_equal_slice_nil x.w xt e _ _ _ ht) (by simp) (by simp) (by simp) (by simp))
  ·simp at he
 ·split at he
  ·obtain ⟨b, hb, rfl⟩ := Option.map_eq_some_iff.1 he
   obtain ⟨e, ht⟩ := ht
   rw [hz.nilsl_inv] at hrun
   generalize a.eval y = u at hy hrun
   cases hy with
   | esl a0 cap =>
    exact hrun (by simp) (by simp) (negIf_run hb (run_equal_slice_nil x.w xt e _ _ _ ht) (by simp) (by simp) (by simp) (by simp))
  ·simp at he
 ·split at he
  ·obtain ⟨b, hb, rfl⟩ := Option.map_eq_some_iff.1 he
   obtain ⟨e, ht⟩ := ht
   rw [hz.nilsl_inv] at hrun
   generalize a.eval y = u at hy hrun
   cases hy with
   | row id n v hv _ _ =>
    match u, hv, hrun with
    | .slice (some a0) _ _, _, hrun => exact hrun (by simp) (by simp) (negIf_run hb (run_equal_slice_nil x.w xt e _ _ _ ht) (by simp) (by simp) (by simp) (by simp))
  ·simp at he
 ·split at he
  ·obtain ⟨b, hb, rfl⟩ := Option.map_eq_some_iff.1 he
   obtain ⟨e, ht⟩ := ht
   rw [hz.s_inv] at hrun
   cases hy with
   | ptr id off v hv _ _ =>
    obtain ⟨p, hp⟩ := isPtr_some hv
    rw [hp] at hrun
    exact hrun (by simp) (by simp) (negIf_run hb (equalPtrNil_runIn 9999 ht) (by simp) (by simp) (by simp) (by simp))
  ·simp at he
 ·split at he
  ·obtain ⟨b, hb, rfl⟩ := Option.map_eq_some_iff.1 he
   rw [hz.s_inv] at hrun
   generalize a.eval y = u at hy hrun
   cases hy with
   | ifc t a' v hr =>
    refine hrun (by simp) (by simp) (negIf_run hb ?_ (by simp) (by simp) (by simp) (by simp))
    obtain ⟨ms, h1⟩ := ht.1
    exact equalIfcNil_runIn 9999 h1
  ·simp at he
 ·simp at he
end
end Go.Ev
set_option linter.unusedSimpArgs false
set_option linter.unusedVariables false
namespace Go.Ev
section
variable {P : Program} {G : Cf} {x : Cx} {st : St} {a : Act}
theorem bound_run (hs : RelS G x st a) {y n r : Nat} {q : Operand} {code : BoundsCode} {w : World} (hy : y ≤ n) (hb : bound G st.t y (trO q) = some r) : r ≤ y ∧ (Instr.sliceBound (a.eval q) n code).run P w = .ok r w := by
 have hq := hs.opd q
 unfold bound at hb
 split at hb
 ·rename_i k i heq
  rw [heq] at hq
  split at hb
  ·rename_i hi
   injection hb with hb
   subst hb
   refine ⟨by omega, ?_⟩
   rw [hq.s_inv]
   simp only [Instr.sliceBound, asIntOf, Sem.run_bind, Sem.run_pure, Result.andThen_ok]
   rw [if_pos ⟨hi.1, by omega⟩]
   rfl
  ·simp at hb
 ·simp at hb
theorem bounds_run (hs : RelS G x st a) {n cap l h : Nat} {lo hi mx : Option Operand} {is : Bool} {w : World} (hn : n ≤ cap) (hb : bounds G st.t n (lo.map trO) (hi.map trO) (mx.map trO) = some (l, h)) :
  ∃ m, l ≤ h ∧ h ≤ n ∧ h ≤ m ∧ m ≤ cap ∧ (Instr.sliceBounds is n cap (lo.map a.eval) (hi.map a.eval) (mx.map a.eval)).run P w = .ok (l, h, m) w := by
 have low : ∀ h', (match lo.map trO with
   | none => some (0, h')
   | some x => match bound G st.t h' x with
    | some l => some (l, h')
    | none => none) = some (l, h) → h' = h ∧ l ≤ h ∧ ∀ (code : BoundsCode) (m : Nat), ((match lo.map a.eval with
   | some v => do
    let l ← Instr.sliceBound v h' code
    pure (l, h', m)
   | none => do
    let l ← pure 0
    pure (l, h', m) : Sem (Nat × Nat × Nat)).run P w = .ok (l, h', m) w) := by
  intro h' hl
  cases lo with
  | none => simp at hl; obtain ⟨rfl, rfl⟩ := hl; exact ⟨rfl, by omega, fun _ _ => rfl⟩
  | some q =>
   simp only [Option.map_some] at hl
   split at hl
   ·rename_i r hr
    injection hl with hl
    injection hl with h1 h2
    subst h1 h2
    exact ⟨rfl, (bound_run (P := P) (w := w) (code := .sliceB) hs (Nat.le_refl _) hr).1, fun code m => by simp [(bound_run (P := P) (w := w) (code := code) hs (Nat.le_refl _) hr).2]⟩
   ·simp at hl
 unfold bounds at hb
 cases mx with
 | none =>
  cases hi with
  | none =>
   simp only [Option.map_none] at hb
   obtain ⟨rfl, h2, h3⟩ := low n hb
   refine ⟨cap, h2, Nat.le_refl _, hn, Nat.le_refl _, ?_⟩
   simp only [Instr.sliceBounds, Option.map_none, Sem.run_bind, Sem.run_pure, Result.andThen_ok, Option.isSome_none]
   exact h3 .sliceB cap
  | some q =>
   simp only [Option.map_none, Option.map_some] at hb
   split at hb
   ·rename_i h' heq
    obtain ⟨h1, h2⟩ := bound_run (P := P) (w := w) (code := if is then .sliceAcap else .sliceAlen) hs hn heq
    obtain ⟨rfl, h3, h4⟩ := low h' hb
    refine ⟨cap, h3, h1, by omega, Nat.le_refl _, ?_⟩
    simp only [Instr.sliceBounds, Option.map_none, Option.map_some, Sem.run_bind, Sem.run_pure, Result.andThen_ok, Option.isSome_none, h2]
    exact h4 .sliceB cap
   ·simp at hb
 | some p =>
  cases hi with
  | none => simp at hb
  | some q =>
   simp only [Option.map_some] at hb
   split at hb
   ·rename_i h' heq
    split at heq
    ·rename_i m hm
     obtain ⟨h1, h2⟩ := bound_run (P := P) (w := w) (code := if is then .slice3Acap else .slice3Alen) hs hn hm
     obtain ⟨h5, h6⟩ := bound_run (P := P) (w := w) (code := .slice3B) hs (Nat.le_refl _) heq
     obtain ⟨rfl, h3, h4⟩ := low h' hb
     refine ⟨m, h3, by omega, h5, by omega, ?_⟩
     simp only [Instr.sliceBounds, Option.map_some, Sem.run_bind, Result.andThen_ok, Option.isSome_some, h2, h6]
     exact h4 .slice3C m
    ·simp at heq
   ·simp at hb
theorem rep_cut {w : World} {S : Nat → Nat → Prop} {l : List (List C)} {sz n h m cap : Nat} {base : Option Addr} (hr : Rep w S (.sl l) (.slice base l.length cap)) (hsz : szOk sz l = true) (h1 : n ≤ h) (h2 : h ≤ l.length) (h3 : h ≤ m) (h4 : m ≤ cap) :
  Rep w S (.sl ((l.take h).drop n)) (.slice (if m = n then base else base.map (·.add (n * sz))) (h - n) (m - n)) := by
 have hlen : ((l.take h).drop n).length = h - n := by simp; omega
 by_cases he : h - n = 0
 ·rw [he]
  have : (l.take h).drop n = [] := List.eq_nil_of_length_eq_zero (by omega)
  rw [this]
  refine .nil _ _ fun hb => ?_
  have : base = none := by
   split at hb
   ·exact hb
   ·simpa using hb
  subst this
  have := hr.slice_nil
  omega
 ·obtain ⟨base', cap', hv, hcap, hne⟩ := hr.slice_inv
  injection hv with hb _ _
  subst hb
  have hl : l ≠ [] := by rintro rfl; simp at h2; omega
  obtain ⟨sz', b, o, vals, rfl, hs', hc, hrr⟩ := hne hl
  have hszeq : sz' = sz := by
   obtain ⟨e, r, rfl⟩ := List.exists_cons_of_ne_nil hl
   rw [← hs' e (by simp), szOk_iff.1 hsz e (by simp)]
  subst hszeq
  rw [if_neg (by omega)]
  simp only [Option.map_some, Addr.add_lit]
  rw [← hlen]
  refine .sl _ sz' b (o + n * sz') (m - n) (fun j => vals (n * sz' + j)) (by intro h0; rw [h0] at hlen; simp at hlen; omega) (fun e he' => hs' e (List.mem_of_mem_take (List.mem_of_mem_drop he'))) (by omega) (fun j hj => ?_) fun i k e c hi hk => ?_
  ·rw [hlen] at hj
   have : (h - n) * sz' = h * sz' - n * sz' := Nat.sub_mul h n sz'
   have h4 : h * sz' ≤ l.length * sz' := Nat.mul_le_mul_right _ h2
   have := hc (n * sz' + j) (by omega)
   rw [Nat.add_assoc]
   exact this
  ·rw [List.getElem?_drop] at hi
   have hi2 : l[n + i]? = some e := by
    rw [List.getElem?_take] at hi
    split at hi
    ·exact hi
    ·simp at hi
   have := hrr (n + i) k e c hi2 hk
   rw [Nat.add_mul, Nat.add_assoc] at this
   exact this
theorem slice_ok {o : Oper} {y : Operand} {t e : TypeId} {sz : Nat} {lo hi mx : Option Operand} (ho : o.op = .slice t y lo hi mx) (h1 : P.underlying t = some (.slice e)) (h2 : (P.info? e).map (·.size) = some sz) (hs : RelS G x st a) {v : AV} {al : List (Nat × Obj)} {F : FnEv}
  (he : evP G st.t F (.slice sz (trO y) (lo.map trO) (hi.map trO) (mx.map trO)) = some (v, al)) : al = [] ∧ OpOk P o a G x st.h v st.h := by
 have hr := hs.opd y
 obtain ⟨i, hi1, hi2⟩ := Option.map_eq_some_iff.1 h2
 have hsize : (sizeOf e).run P x.w = .ok sz x.w := by simp [sizeOf, typeInfo, hi1, hi2]
 have hrun : ∀ base n cap l h m, a.eval y = .slice base n cap → (Instr.sliceBounds true n cap (lo.map a.eval) (hi.map a.eval) (mx.map a.eval)).run P x.w = .ok (l, h, m) x.w →
   (execOp a.eval o).run P x.w = .ok (.value (.slice (if m = l then base else base.map (·.add (l * sz))) (h - l) (m - l))) x.w := fun base n cap l h m hv hb => by
  simp only [execOp, ho, Instr.sliceAt, Sem.run_bind, run_underlying h1, Result.andThen_ok, Instr.slice, hv, hb, hsize, Sem.run_pure]
 simp only [evP] at he
 split at he
 ·rename_i old l hq
  rw [hq] at hr
  split at he
  ·rename_i hsz
   split at he
   ·rename_i b h hb
    injection he with he
    injection he with h3 h4
    subst h3 h4
    refine ⟨rfl, ?_⟩
    cases hr with
    | sl old l v hr =>
     obtain ⟨base, cap, hv, hcap, _⟩ := hr.slice_inv
     rw [hv] at hr
     obtain ⟨m, hb1, hb2, hb3, hb4, hb5⟩ := bounds_run (P := P) (is := true) (w := x.w) hs hcap hb
     exact OpOk.val hs.inv (hrun _ _ _ _ _ _ hv hb5) (.sl _ _ _ (rep_cut hr hsz hb1 hb2 hb3 hb4)) (by simp [AV.refs])
   ·simp at he
  ·simp at he
 ·rename_i hq
  rw [hq] at hr
  split at he
  ·rename_i p hb
   injection he with he
   injection he with h3 h4
   subst h3 h4
   refine ⟨rfl, ?_⟩
   obtain ⟨l, h⟩ := p
   obtain ⟨m, hb1, hb2, hb3, hb4, hb5⟩ := bounds_run (P := P) (is := true) (w := x.w) hs (cap := 0) (Nat.le_refl _) hb
   have hl : l = 0 := by omega
   have hh : h = 0 := by omega
   subst hl hh
   have hm : m = 0 := by omega
   subst hm
   refine OpOk.val hs.inv (hrun none 0 0 0 0 0 hr.nilsl_inv hb5) ?_ (by simp [AV.refs])
   simp
   exact .nilsl
  ·simp at he
 ·simp at he
theorem slices_ok {o : Oper} {y : Operand} {t : TypeId} {lo hi : Option Operand} (ho : o.op = .slice t y lo hi none) (h1 : P.underlying t = some .string) (hs : RelS G x st a) {v : AV} {al : List (Nat × Obj)} {F : FnEv}
  (he : evP G st.t F (.slices (trO y) (lo.map trO) (hi.map trO)) = some (v, al)) : al = [] ∧ OpOk P o a G x st.h v st.h := by
 have hr := hs.opd y
 simp only [evP] at he
 split at he
 ·rename_i s hq
  rw [hq] at hr
  split at he
  ·rename_i b h hb
   injection he with he
   injection he with h3 h4
   subst h3 h4
   refine ⟨rfl, ?_⟩
   obtain ⟨m, hb1, hb2, hb3, _, hb5⟩ := bounds_run (P := P) (is := false) (w := x.w) (mx := none) hs (Nat.le_refl s.size) hb
   refine OpOk.val hs.inv (u := .string (s.extract b h)) ?_ (.s _) (by simp [AV.refs])
   simp only [Option.map_none] at hb5
   simp only [execOp, ho, Instr.sliceAt, Sem.run_bind, run_underlying h1, Result.andThen_ok, Instr.slice, hr.s_inv, Option.map_none, Option.isSome_none, Bool.false_eq_true, if_false, hb5, Sem.run_pure]
  ·simp at he
 ·simp at he
def TAgg (P : Program) (t : TypeId) (ag : Bool) : Prop := ∃ d, P.underlying t = some d ∧ ag = (match d with
 | .struct _ => true
 | .array _ _ => true
 | _ => false)
theorem isAgg_run {t : TypeId} {ag : Bool} {w : World} (h : TAgg P t ag) : (isAgg t).run P w = .ok ag w := by
 obtain ⟨d, h1, h2⟩ := h
 subst h2
 cases d <;> simp [isAgg, underlying, h1]
def TSize (P : Program) (t : TypeId) (n : Nat) : Prop := (P.info? t).map (·.size) = some n
theorem sizeOf_run {t : TypeId} {n : Nat} {w : World} (h : TSize P t n) : (sizeOf t).run P w = .ok n w := by
 obtain ⟨i, hi1, hi2⟩ := Option.map_eq_some_iff.1 h
 simp [sizeOf, typeInfo, hi1, hi2]
def partA (ag : Bool) (off sz : Nat) (l : List AV) : Option AV :=
 if ag then (if off + sz ≤ l.length then some (.agg ((l.drop off).take sz)) else none) else l[off]?
theorem part_run {t : TypeId} {ag : Bool} {sz off : Nat} {l : List AV} {vs : List Value} {v : AV} {h : Heap} {w : World} (h1 : TAgg P t ag) (h2 : TSize P t sz) (hl : l.length = vs.length)
  (hr : ∀ (i : Nat) (a : AV) (v : Value), l[i]? = some a → vs[i]? = some v → RelV x h a v) (he : partA ag off sz l = some v) :
  ∃ u, (part t vs.toArray off).run P w = .ok u w ∧ RelV x h v u := by
 unfold partA at he
 cases ag
 ·simp only [Bool.false_eq_true, if_false] at he
  have hi : off < vs.length := hl ▸ (List.getElem?_eq_some_iff.1 he).1
  refine ⟨vs[off], ?_, hr off v _ he (List.getElem?_eq_getElem hi)⟩
  simp [part, isAgg_run h1, hi]
 ·simp only [if_true] at he
  split at he
  ·rename_i hle
   injection he with he
   subst he
   refine ⟨.agg ((vs.drop off).take sz).toArray, ?_, .agg _ _ (by simp; omega) fun i a v h3 h4 => ?_⟩
   ·simp only [part, Sem.run_bind, isAgg_run h1, Result.andThen_ok, if_true, sizeOf_run h2, Sem.run_pure]
    congr 2
    apply Array.ext'
    simp [List.extract]
   ·rw [List.getElem?_take] at h3 h4
    split at h3
    ·rename_i hlt
     rw [if_pos hlt] at h4
     rw [List.getElem?_drop] at h3 h4
     exact hr _ _ _ h3 h4
    ·simp at h3
  ·simp at he
theorem partA_refs {ag : Bool} {off sz : Nat} {l : List AV} {v : AV} (he : partA ag off sz l = some v) : ∀ id ∈ v.refs, id ∈ refsL l := by
 unfold partA at he
 cases ag
 ·simp only [Bool.false_eq_true, if_false] at he
  exact fun id hid => mem_refsL he hid
 ·simp only [if_true] at he
  split at he
  ·injection he with he
   subst he
   intro id hid
   simp only [AV.refs] at hid
   obtain ⟨i, b, h3, h4⟩ := mem_refsL_iff.1 hid
   rw [List.getElem?_take] at h3
   split at h3
   ·rw [List.getElem?_drop] at h3
    exact mem_refsL h3 h4
   ·simp at h3
  ·simp at he
theorem fld_ok {o : Oper} {y : Operand} {t : TypeId} {i : Nat} {fs : Array Field} {f : Field} {ag : Bool} {sz : Nat} (ho : o.op = .field t y i) (h1 : P.underlying t = some (.struct fs)) (hf : fs[i]? = some f) (h2 : TAgg P f.type ag) (h3 : TSize P f.type sz)
  (hs : RelS G x st a) {v : AV} {l : List AV} (hq : rho G st.t (trO y) = .agg l) (he : partA ag f.offset sz l = some v) : OpOk P o a G x st.h v st.h := by
 have hr := hs.opd y
 have hl := hs.opdRefs y
 rw [hq] at hr hl
 obtain ⟨vs, hu, hlen, hrel⟩ := hr.agg_inv
 obtain ⟨u, hu1, hu2⟩ := part_run (P := P) (w := x.w) h2 h3 hlen hrel he
 refine OpOk.val hs.inv (u := u) ?_ hu2 fun id hid => hl id (by simp only [AV.refs]; exact partA_refs he id hid)
 simp only [execOp, ho, Instr.field, Sem.run_bind, run_underlying h1, Result.andThen_ok, hu]
 simp [hf, asAgg, hu1]
theorem ix_ok {o : Oper} {y z : Operand} {t e : TypeId} {n : Nat} {ag : Bool} {sz : Nat} (ho : o.op = .index t y z) (h1 : P.underlying t = some (.array n e)) (h2 : TAgg P e ag) (h3 : TSize P e sz)
  (hs : RelS G x st a) {v : AV} {l : List AV} {k : IntKind} {i : Int} (hq : rho G st.t (trO y) = .agg l) (hz : rho G st.t (trO z) = .s (.int k i)) (hi : 0 ≤ i ∧ i < n) (he : partA ag (i.toNat * sz) sz l = some v) : OpOk P o a G x st.h v st.h := by
 have hr := hs.opd y
 have hl := hs.opdRefs y
 have hrz := hs.opd z
 rw [hq] at hr hl
 rw [hz] at hrz
 obtain ⟨vs, hu, hlen, hrel⟩ := hr.agg_inv
 obtain ⟨u, hu1, hu2⟩ := part_run (P := P) (w := x.w) h2 h3 hlen hrel he
 refine OpOk.val hs.inv (u := u) ?_ hu2 fun id hid => hl id (by simp only [AV.refs]; exact partA_refs he id hid)
 simp only [execOp, ho, Instr.index, Sem.run_bind, hrz.s_inv, asIntOf, Sem.run_pure, run_underlying h1, Result.andThen_ok, hu]
 rw [if_pos hi]
 simp [sizeOf_run h3, hu1]
theorem ixs_ok {o : Oper} {y z : Operand} {t : TypeId} (ho : o.op = .index t y z) (h1 : P.underlying t = some .string) (hs : RelS G x st a) {s : ByteArray} {b : UInt8} {k : IntKind} {i : Int}
  (hq : rho G st.t (trO y) = .s (.string s)) (hz : rho G st.t (trO z) = .s (.int k i)) (hi : 0 ≤ i) (he : s.data.toList[i.toNat]? = some b) : OpOk P o a G x st.h (.s (.int .u8 (b.toNat : Int))) st.h := by
 have hr := hs.opd y
 have hrz := hs.opd z
 rw [hq] at hr
 rw [hz] at hrz
 refine OpOk.val hs.inv (u := .int .u8 (b.toNat : Int)) ?_ (.s _) (by simp [AV.refs])
 have hb : s[i.toNat]? = some b := by
  obtain ⟨h5, h6⟩ := List.getElem?_eq_some_iff.1 he
  have hsz : i.toNat < s.size := by simpa using h5
  rw [getElem?_pos s i.toNat hsz]
  exact congrArg some h6
 simp only [execOp, ho, Instr.index, Sem.run_bind, hrz.s_inv, asIntOf, Sem.run_pure, run_underlying h1, Result.andThen_ok, hr.s_inv, if_pos hi, hb]
theorem mx_ok {o : Oper} {y z : Operand} {ts : Array TypeId} (ho : o.op = .call { callee := .builtin .max, args := #[y, z], argTypes := ts }) (hs : RelS G x st a) {k k' : IntKind} {m n : Int}
  (hq : rho G st.t (trO y) = .s (.int k m)) (hz : rho G st.t (trO z) = .s (.int k' n)) : OpOk P o a G x st.h (.s (.int k (if n > m then n else m))) st.h := by
 have hr := hs.opd y
 have hrz := hs.opd z
 rw [hq] at hr
 rw [hz] at hrz
 refine OpOk.val hs.inv (u := .int k (if n > m then n else m)) ?_ (.s _) (by simp [AV.refs])
 simp [execOp, ho, resolve, invoke, builtin, Builtin.max_, Builtin.max2, hr.s_inv, hrz.s_inv]
theorem mn_ok {o : Oper} {y z : Operand} {ts : Array TypeId} (ho : o.op = .call { callee := .builtin .min, args := #[y, z], argTypes := ts }) (hs : RelS G x st a) {k k' : IntKind} {m n : Int}
  (hq : rho G st.t (trO y) = .s (.int k m)) (hz : rho G st.t (trO z) = .s (.int k' n)) : OpOk P o a G x st.h (.s (.int k (if n < m then n else m))) st.h := by
 have hr := hs.opd y
 have hrz := hs.opd z
 rw [hq] at hr
 rw [hz] at hrz
 refine OpOk.val hs.inv (u := .int k (if n < m then n else m)) ?_ (.s _) (by simp [AV.refs])
 simp [execOp, ho, resolve, invoke, builtin, Builtin.min_, Builtin.min2, hr.s_inv, hrz.s_inv]
theorem capn_ok {o : Oper} {y : Operand} {t e : TypeId} (ho : o.op = .call { callee := .builtin .cap, args := #[y], argTypes := #[t] }) (h1 : P.underlying t = some (.slice e)) (hs : RelS G x st a)
  (hq : rho G st.t (trO y) = .nilsl) : OpOk P o a G x st.h (.s (.int .i64 0)) st.h := by
 have hr := hs.opd y
 rw [hq] at hr
 refine OpOk.val hs.inv (u := .int .i64 0) ?_ (.s _) (by simp [AV.refs])
 simp [execOp, ho, resolve, invoke, builtin, Builtin.cap_, hr.nilsl_inv, underlying, h1, goInt]
theorem iap_ok {o : Oper} {y z : Operand} {t e : TypeId} {n sz : Nat} (ho : o.op = .indexAddr t y z) (h1 : P.underlying t = some (.array n e)) (h3 : TSize P e sz) (hs : RelS G x st a) {v : AV} {al : List (Nat × Obj)} {F : FnEv}
  (he : evP G st.t F (.iap n sz (trO y) (trO z)) = some (v, al)) : al = [] ∧ OpOk P o a G x st.h v st.h := by
 have hr := hs.opd y
 have hl := hs.opdRefs y
 have hrz := hs.opd z
 have hrun : ∀ p k i, a.eval y = .pointer (some p) → a.eval z = .int k i → (0 ≤ i ∧ i < (n : Int)) → (execOp a.eval o).run P x.w = .ok (.value (.pointer (some (p.add (i.toNat * sz))))) x.w := fun p k i hp hi hin => by
  simp only [execOp, ho, Instr.indexAt, Sem.run_bind, hi, asIntOf, Sem.run_pure, Result.andThen_ok, run_underlying h1, hp, Instr.sureAddr]
  rw [if_pos hin]
  simp [sizeOf_run h3]
 simp only [evP] at he
 split at he
 ·rename_i id off k i hq hz
  rw [hq] at hr hl
  rw [hz] at hrz
  split at he
  ·rename_i hin
   injection he with he
   injection he with h4 h5
   subst h4 h5
   refine ⟨rfl, ?_⟩
   cases hr with
   | ptr id off v hv hr hbg =>
    obtain ⟨p, hp⟩ := isPtr_some hv
    refine OpOk.val hs.inv (hrun p k i hp hrz.s_inv hin) (.ptr _ _ _ trivial (fun cs hc => ?_) fun d hc => ?_) hl
    ·have := hr cs hc
     rw [hp] at this
     injection this with this
     injection this with this
     rw [this, Addr.add_lit]
    ·have := hbg d hc
     rw [hp] at this
     injection this with this
     injection this with this
     rw [this, Addr.add_lit]
  ·simp at he
 ·rename_i old l k i hq hz
  rw [hq] at hr hl
  rw [hz] at hrz
  split at he
  ·rename_i hin
   injection he with he
   injection he with h4 h5
   subst h4 h5
   refine ⟨rfl, ?_⟩
   obtain ⟨b, o', hu, hd⟩ := daddr_drop hr
   refine OpOk.val hs.inv (hrun _ k i hu hrz.s_inv hin) ?_ (by simp [AV.refs])
   rw [Addr.add_lit]
   exact hd _
  ·simp at he
 ·simp at he
end
end Go.Ev
set_option linter.unusedSimpArgs false
set_option linter.unusedVariables false
namespace Go.Ev
section
variable {P : Program} {G : Cf} {x : Cx} {st : St} {a : Act}
theorem Rep.ofC {h : Heap} {old : Bool} {c : C} {v : Value} (hr : Rep x.w (x.sh old) c v) : RelV x h (ofC old c) v := by
 cases c with
 | sc u => cases hr; exact .s _
 | sl l => exact .sl old l v hr
theorem refs_ofC (old : Bool) (c : C) : (ofC old c).refs = [] := by cases c <;> rfl
theorem Rep.one {w : World} {S : Nat → Nat → Prop} {c : C} {v : Value} (hr : Rep w S c v) : v.oneCell' = true := by
 cases hr with
 | sc v h => exact h
 | nil => rfl
 | sl => rfl
structure ElemsAt (x : Cx) (old : Bool) (l : List (List C)) (base : Option Addr) (cap : Nat) : Prop where
 cap : l.length ≤ cap
 at_ : l ≠ [] → ∃ sz b o, ∃ vals : Nat → Value, base = some ⟨b, o, none⟩ ∧ (∀ e ∈ l, e.length = sz) ∧ (∀ j, j < l.length * sz → x.w.cell? ⟨b, o + j, none⟩ = some (vals j)) ∧
   ∀ (i k : Nat) (e : List C) (c : C), l[i]? = some e → e[k]? = some c → Rep x.w (x.sh old) c (vals (i * sz + k))
theorem rowAt_inv {h : Heap} {id n e s : Nat} {o f : Bool} {l : List (List C)} (hr : rowAt h id n = some (e, s, o, f, l)) : getO h id = some (.row e s o f l) ∧ l.length = n := by
 unfold rowAt at hr
 split at hr
 ·rename_i e' s' o' f' l' heq
  split at hr
  ·rename_i hl
   injection hr with hr
   injection hr with h1 hr
   injection hr with h2 hr
   injection hr with h3 hr
   injection hr with h4 h5
   subst h1 h2 h3 h4 h5
   exact ⟨heq, hl⟩
  ·simp at hr
 ·simp at hr
theorem row_elems {h : Heap} (hi : Inv G x h) {id e s : Nat} {o f : Bool} {l : List (List C)} (hg : getO h id = some (.row e s o f l)) : ElemsAt x o l (some ⟨x.φ id, 0, none⟩) (x.κ id) := by
 obtain ⟨arr, h1, h2, h3, h4, h5, h6, h7, h8, h9⟩ := hi.obj id _ hg
 have hle : l.length * s ≤ arr.size := by rw [h2]; exact Nat.mul_le_mul_right _ h3
 refine ⟨h3, fun _ => ⟨s, x.φ id, 0, fun j => arr.getD j undef, rfl, h6, fun j hj => ?_, fun i k e c hi' hc => ?_⟩⟩
 ·rw [cell_of_row x.w _ _ _ _ _ h1, Nat.zero_add]
  have : j < arr.size := by omega
  simp [Array.getD, this]
 ·obtain ⟨v, hv, hr⟩ := h8 i k e c hi' hc
  simp [Array.getD_eq_getD_getElem?, hv, hr]
theorem elems_rel {h : Heap} (hi : Inv G x h) {v : AV} {u : Value} (hr : RelV x h v u) {old : Bool} {l : List (List C)} (he : elems h v = some (old, l)) :
  ∃ base cap, u = .slice base l.length cap ∧ ElemsAt x old l base cap := by
 cases v <;> simp only [elems] at he <;> try (simp at he; done)
 ·injection he with he
  injection he with h1 h2
  subst h1 h2
  cases hr with
  | sl old l v hr =>
   obtain ⟨base, cap, hv, hcap, hne⟩ := hr.slice_inv
   refine ⟨base, cap, hv, hcap, fun hl => ?_⟩
   obtain ⟨sz, b, o, vals, h1, h2, h3, h4⟩ := hne hl
   exact ⟨sz, b, o, vals, h1, h2, fun j hj => (h3 j hj).2, h4⟩
 ·injection he with he
  injection he with h1 h2
  subst h1 h2
  exact ⟨none, 0, hr.nilsl_inv, Nat.zero_le _, fun hl => absurd rfl hl⟩
 ·injection he with he
  injection he with h1 h2
  subst h1 h2
  cases hr with
  | esl a0 cap => exact ⟨some a0, cap, rfl, Nat.zero_le _, fun hl => absurd rfl hl⟩
 ·rename_i id n
  split at he
  ·rename_i e s o f l' hrow
   injection he with he
   injection he with h1 h2
   subst h1 h2
   obtain ⟨hg, hl⟩ := rowAt_inv hrow
   cases hr with
   | row id n v hv hle hr =>
    have := hr _ _ _ _ _ hg hl
    subst hl
    exact ⟨_, _, this, row_elems hi hg⟩
  ·simp at he
theorem len_ok {o : Oper} {y : Operand} {t : TypeId} {str : Bool} (ho : o.op = .call { callee := .builtin .len, args := #[y], argTypes := #[t] }) (h1 : if str then P.underlying t = some .string else ∃ e, P.underlying t = some (.slice e)) (hs : RelS G x st a)
  {v : AV} (he : evR G st.t st.h (.len str (trO y)) = some v) : OpOk P o a G x st.h v st.h := by
 have hr := hs.opd y
 simp only [evR] at he
 cases str with
 | false =>
  simp only [Bool.false_eq_true, if_false] at he h1
  obtain ⟨e, h1⟩ := h1
  split at he
  ·rename_i old l hel
   injection he with he
   subst he
   obtain ⟨base, cap, hu, _⟩ := elems_rel hs.inv hr hel
   refine OpOk.val hs.inv (u := .int .i64 (l.length : Int)) ?_ (.s _) (by simp [AV.refs])
   simp [execOp, ho, resolve, invoke, builtin, Builtin.len_, hu, underlying, h1, goInt]
  ·simp at he
 | true =>
  simp only [if_true] at he h1
  split at he
  ·rename_i s hq
   rw [hq] at hr
   injection he with he
   subst he
   refine OpOk.val hs.inv (u := .int .i64 (s.size : Int)) ?_ (.s _) (by simp [AV.refs])
   simp [execOp, ho, resolve, invoke, builtin, Builtin.len_, hr.s_inv, underlying, h1, goInt]
  ·simp at he
theorem cells_bytes {l : List (List C)} {bs : List UInt8} (hb : bytesOf l = some bs) : ∃ ns : List Int, l = (ns.map fun n => [C.sc (.int .u8 n)]) ∧ bs = ns.map fun n => UInt8.ofNat n.toNat := by
 induction l generalizing bs with
 | nil => simp [bytesOf] at hb; exact ⟨[], rfl, by simp [hb]⟩
 | cons e r ih =>
  unfold bytesOf at hb
  split at hb
  ·simp_all
  ·rename_i n r' heq
   injection heq with h1 h2
   subst h1 h2
   split at hb
   ·rename_i bs' hbs
    injection hb with hb
    subst hb
    obtain ⟨ns, h1, h2⟩ := ih hbs
    exact ⟨n :: ns, by simp [← h1], by simp [← h2]⟩
   ·simp at hb
  ·simp at hb
theorem fold_bytes (ns : List Int) : ∀ s : ByteArray, ns.foldl (fun r n => r.push (UInt8.ofNat n.toNat)) s = ⟨s.data ++ (ns.map fun n => UInt8.ofNat n.toNat).toArray⟩ := by
 induction ns with
 | nil => intro s; simp
 | cons n ns ih =>
  intro s
  rw [List.foldl_cons, ih]
  congr 1
  simp [ByteArray.push]
theorem b2s_ok {o : Oper} {y : Operand} {src dst e : TypeId} (ho : o.op = .convert src dst y) (h1 : P.underlying src = some (.slice e)) (h2 : P.underlying e = some (.int .u8)) (h3 : P.underlying dst = some .string) (hs : RelS G x st a)
  {v : AV} (he : evR G st.t st.h (.b2s (trO y)) = some v) : OpOk P o a G x st.h v st.h := by
 have hr := hs.opd y
 simp only [evR] at he
 split at he
 ·rename_i old l hel
  split at he
  ·rename_i bs hb
   injection he with he
   subst he
   obtain ⟨base, cap, hu, hcap, hat⟩ := elems_rel hs.inv hr hel
   obtain ⟨ns, hl, hbs⟩ := cells_bytes hb
   refine OpOk.val hs.inv (u := .string ⟨bs.toArray⟩) ?_ (.s _) (by simp [AV.refs])
   simp only [execOp, ho, hu, Sem.run_bind, run_convert_bytes_string x.w src dst e _ _ _ h1 h2 h3]
   by_cases hne : l = []
   ·have hb0 : bs = [] := by
     rw [hne] at hb
     simpa [bytesOf] using hb.symm
    subst hb0
    rw [hne]
    cases base with
    | none => simp [Conv.bytesToString]; rfl
    | some p => simp [Conv.bytesToString, loadCells, loadCellsFrom]; rfl
   ·obtain ⟨sz, b, o', vals, rfl, hsz, hc, hrr⟩ := hat hne
    have hs1 : sz = 1 := by
     obtain ⟨q, r, rfl⟩ := List.exists_cons_of_ne_nil hne
     rw [← hsz q (by simp)]
     cases ns with
     | nil => simp at hl
     | cons n ns => simp at hl; rw [hl.1]; rfl
    subst hs1
    have hvals : ∀ j (hj : j < ns.length), vals j = .int .u8 ns[j] := fun j hj => by
     have hj' : l[j]? = some [C.sc (.int .u8 ns[j])] := by rw [hl]; simp [hj]
     have := hrr j 0 _ _ hj' rfl
     simp only [Nat.mul_one, Nat.add_zero] at this
     generalize vals j = q at this
     cases this
     rfl
    have hlen : l.length = ns.length := by rw [hl]; simp
    have hload : (loadCells ⟨b, o', none⟩ l.length).run P x.w = .ok (ns.map (Value.int .u8)).toArray x.w := by
     rw [run_loadCells x.w ⟨b, o', none⟩ l.length vals (fun j hj => by rw [Addr.add_lit]; exact hc j (by omega))]
     congr 2
     apply List.ext_getElem
     ·simp [hlen]
     ·intro j h4 h5
      simp at h4 h5
      simp [hvals j h5]
    rw [run_bytesToString x.w ⟨b, o', none⟩ l.length cap ns hload, fold_bytes]
    simp [hbs]
  ·simp at he
 ·simp at he
theorem run_loadBytes (w : World) (b : Nat) : ∀ (ns : List Int) (o : Nat) (acc : ByteArray), (∀ j (hj : j < ns.length), w.cell? ⟨b, o + j, none⟩ = some (.int .u8 ns[j])) →
  (Extern.Bytes.loadBytes ⟨b, o, none⟩ ns.length acc).run P w = .ok (ns.foldl (fun r n => r.push (UInt8.ofNat n.toNat)) acc) w
 | [], o, acc, _ => rfl
 | n :: ns, o, acc, h => by
  have h0 := h 0 (by simp)
  simp only [Nat.add_zero, List.getElem_cons_zero] at h0
  have ih := run_loadBytes w b ns (o + 1) (acc.push (UInt8.ofNat n.toNat)) fun j hj => by
   have := h (j + 1) (by simpa using hj)
   rw [show o + 1 + j = o + (j + 1) by omega]
   simpa using this
  simp only [List.length_cons, Extern.Bytes.loadBytes, Sem.run_bind, run_load, h0, Result.andThen_ok, List.foldl_cons]
  rw [show (⟨b, o, none⟩ : Addr).add 1 = ⟨b, o + 1, none⟩ by rw [Addr.add_lit]]
  exact ih
theorem bytes_run {l : List (List C)} {bs : List UInt8} (hb : bytesOf l = some bs) {old : Bool} {base : Option Addr} {cap : Nat} (hat : ElemsAt x old l base cap) : (Extern.Bytes.bytesOf (.slice base l.length cap)).run P x.w = .ok ⟨bs.toArray⟩ x.w := by
 obtain ⟨ns, hl, hbs⟩ := cells_bytes hb
 by_cases hne : l = []
 ·have hb0 : bs = [] := by
   rw [hne] at hb
   simpa [bytesOf] using hb.symm
  subst hb0
  rw [hne]
  cases base with
  | none => rfl
  | some p => rfl
 ·obtain ⟨sz, b, o', vals, rfl, hsz, hc, hrr⟩ := hat.2 hne
  have hs1 : sz = 1 := by
   obtain ⟨q, r, rfl⟩ := List.exists_cons_of_ne_nil hne
   rw [← hsz q (by simp)]
   cases ns with
   | nil => simp at hl
   | cons n ns => simp at hl; rw [hl.1]; rfl
  subst hs1
  have hlen : l.length = ns.length := by rw [hl]; simp
  have hvals : ∀ j (hj : j < ns.length), vals j = .int .u8 ns[j] := fun j hj => by
   have hj' : l[j]? = some [C.sc (.int .u8 ns[j])] := by rw [hl]; simp [hj]
   have := hrr j 0 _ _ hj' rfl
   simp only [Nat.mul_one, Nat.add_zero] at this
   generalize vals j = q at this
   cases this
   rfl
  have := run_loadBytes (P := P) x.w b ns o' .empty fun j hj => by rw [← hvals j hj]; exact hc j (by omega)
  show (Extern.Bytes.loadBytes ⟨b, o', none⟩ l.length .empty).run P x.w = _
  rw [hlen, this, fold_bytes]
  simp [hbs]
def isCmp (P : Program) (f : FuncId) : Bool := match P.funcs[f]? with
 | some fn => fn.body.isNone && ((fn.name == "internal/bytealg.Compare") && (Extern.allNextRows.lookup fn.origin).isNone)
 | none => false
theorem isCmp_ok {P : Program} {f : FuncId} (h : isCmp P f = true) : ∃ fn, P.funcs[f]? = some fn ∧ (fn.name == "runtime.NumGoroutine") = false ∧ fn.body.isNone = true ∧ Extern.findNext fn = none ∧ Extern.find fn = some Extern.BytealgCompare.compare := by
 unfold isCmp at h
 split at h
 ·rename_i fn hf
  simp only [Bool.and_eq_true, beq_iff_eq] at h
  obtain ⟨h1, h2, h3⟩ := h
  have n1 : Extern.allNextRows.lookup "internal/bytealg.Compare" = none := by kernel_rfl
  have n2 : Extern.allGenericRows.lookup "internal/bytealg.Compare" = none := by kernel_rfl
  have n3 : Extern.allTypedRows.lookup "internal/bytealg.Compare" = none := by kernel_rfl
  have n4 : Extern.allRows.lookup "internal/bytealg.Compare" = some Extern.BytealgCompare.compare := by kernel_rfl
  refine ⟨fn, hf, by rw [h2]; rfl, h1, ?_, ?_⟩
  ·simp only [Extern.findNext, h2, n1]
   rw [Option.isNone_iff_eq_none] at h3
   rw [h3]
   rfl
  ·simp only [Extern.find, h2, n2, n3, n4]
   rfl
 ·simp at h
theorem cmpb_ok {o : Oper} {c : Call} {f : FuncId} {y z : Operand} (ho : o.op = .call c) (hc : c.callee = .value (.func f)) (hargs : c.args.toList = [y, z]) {fn : Func} (hf : P.funcs[f]? = some fn) (hn : (fn.name == "runtime.NumGoroutine") = false) (hb : fn.body.isNone = true)
  (hnx : Extern.findNext fn = none) (he2 : Extern.find fn = some Extern.BytealgCompare.compare) (hs : RelS G x st a) {v : AV} (he : evR G st.t st.h (.cmpb (trO y) (trO z)) = some v) : OpOk P o a G x st.h v st.h := by
 have hry := hs.opd y
 have hrz := hs.opd z
 simp only [evR] at he
 split at he
 ·rename_i o1 l o2 m hl hm
  split at he
  ·rename_i as bs ha hbs
   injection he with he
   subst he
   obtain ⟨base1, cap1, hu1, hat1⟩ := elems_rel hs.inv hry hl
   obtain ⟨base2, cap2, hu2, hat2⟩ := elems_rel hs.inv hrz hm
   refine OpOk.val hs.inv (u := .int .i64 (Lib.compareBytes as bs)) ?_ (.s _) (by simp [AV.refs])
   have e1 : c.args.map a.eval = #[a.eval y, a.eval z] := by
    apply Array.ext'
    simp [hargs]
   simp only [execOp, ho, resolve, hc, Act.eval, Deferred.ofValue, invoke, Sem.run_bind, Sem.run_pure, Result.andThen_ok]
   have e2 : (c.args.map fun x => a.eval x) ++ #[] = #[a.eval y, a.eval z] := by simpa using e1
   first
    | rw [e2]
    | rw [e1]
    | skip
   rw [run_callFunc_extern hf hn hb hnx he2]
   have hrun : (Extern.BytealgCompare.compare #[a.eval y, a.eval z]).run P x.w = .ok (.int .i64 (Lib.compareBytes as bs)) x.w := by
    change Sem.run P (do pure (goInt (Extern.BytealgCompare.cmp (← Extern.Bytes.bytesOf (a.eval y)) (← Extern.Bytes.bytesOf (a.eval z))))) x.w = _
    rw [hu1, hu2]
    simp only [Sem.run_bind, bytes_run ha hat1, bytes_run hbs hat2, Result.andThen_ok, Sem.run_pure, Lib.cmp_eq]
    rfl
   simp [hrun]
  ·simp at he
 ·simp at he
theorem ia_ok {o : Oper} {y z : Operand} {t e : TypeId} {sz : Nat} (ho : o.op = .indexAddr t y z) (h1 : P.underlying t = some (.slice e)) (h3 : TSize P e sz) (hs : RelS G x st a) {v : AV}
  (he : evR G st.t st.h (.ia sz (trO y) (trO z)) = some v) : OpOk P o a G x st.h v st.h := by
 have hr := hs.opd y
 have hl := hs.opdRefs y
 have hrz := hs.opd z
 have hrun : ∀ p n cap k i, a.eval y = .slice (some p) n cap → a.eval z = .int k i → (0 ≤ i ∧ i < (n : Int)) → (execOp a.eval o).run P x.w = .ok (.value (.pointer (some (p.add (i.toNat * sz))))) x.w := fun p n cap k i hp hi hin => by
  simp only [execOp, ho, Instr.indexAt, Sem.run_bind, hi, asIntOf, Sem.run_pure, Result.andThen_ok, run_underlying h1, hp]
  rw [if_pos hin]
  simp [sizeOf_run h3]
 simp only [evR] at he
 split at he
 ·rename_i old l k i hq hz
  rw [hq] at hr hl
  rw [hz] at hrz
  split at he
  ·rename_i hin
   split at he
   ·rename_i el hel
    split at he
    ·rename_i hsz
     injection he with he
     subst he
     cases hr with
     | sl old l u hr =>
      obtain ⟨base, cap, hu, hcap, hne⟩ := hr.slice_inv
      have hlne : l ≠ [] := by rintro rfl; simp at hel
      obtain ⟨sz', b, o', vals, rfl, hs', hc, hrr⟩ := hne hlne
      have hmem := List.mem_of_getElem? hel
      have hszeq : sz' = sz := by rw [← hs' el hmem, szOk_iff.1 hsz el hmem]
      subst hszeq
      refine OpOk.val hs.inv (hrun _ _ _ k i hu hrz.s_inv hin) ?_ (by simp [AV.refs])
      rw [Addr.add_lit]
      have hlt : i.toNat < l.length := by omega
      have hm : (i.toNat + 1) * sz' ≤ l.length * sz' := Nat.mul_le_mul_right _ hlt
      rw [Nat.add_mul, Nat.one_mul] at hm
      refine .daddr old el b (o' + i.toNat * sz') (fun j => vals (i.toNat * sz' + j)) (fun j hj => ?_) fun j c hj => hrr i.toNat j el c hel hj
      rw [hs' el hmem] at hj
      rw [Nat.add_assoc]
      exact hc (i.toNat * sz' + j) (by omega)
    ·simp at he
   ·simp at he
  ·simp at he
 ·rename_i id n k i hq hz
  rw [hq] at hr hl
  rw [hz] at hrz
  split at he
  ·rename_i e' s' o' f' l hrow
   split at he
   ·rename_i hin
    obtain ⟨rfl, hin⟩ := hin
    injection he with he
    subst he
    obtain ⟨hg, hlen⟩ := rowAt_inv hrow
    cases hr with
    | row id n u hv hle hr =>
     have hu := hr _ _ _ _ _ hg hlen
     refine OpOk.val hs.inv (hrun _ _ _ k i hu hrz.s_inv (by omega)) ?_ hl
     refine .eptr id n i.toNat 0 _ trivial hle fun e s o f l2 hg2 _ => ?_
     rw [hg] at hg2
     injection hg2 with hg2
     injection hg2 with _ h5
     subst h5
     rw [Addr.add_lit]
     simp
   ·simp at he
  ·simp at he
 ·simp at he
theorem loadVar_run {t : TypeId} {ag : Bool} {sz b o n : Nat} {vals : Nat → Value} {w : World} (h1 : TAgg P t ag) (h2 : TSize P t sz) (hn : (if ag then sz else 1) ≤ n) (hc : ∀ j, j < n → w.cell? ⟨b, o + j, none⟩ = some (vals j)) :
  (loadVar t ⟨b, o, none⟩).run P w = .ok (if ag then .agg ((List.range sz).map vals).toArray else vals 0) w := by
 cases ag
 ·have h0 := hc 0 (by simp at hn; omega)
  simp only [Nat.add_zero] at h0
  simp [loadVar, isAgg_run h1, h0]
 ·have := run_loadCells (P := P) w ⟨b, o, none⟩ sz vals (fun j hj => by rw [Addr.add_lit]; exact hc j (by simp at hn; omega))
  simp [loadVar, isAgg_run h1, sizeOf_run h2, this]
theorem load_data {t : TypeId} {ag old : Bool} {sz b o : Nat} {l : List C} {vals : Nat → Value} {h : Heap} {v : AV} (h1 : TAgg P t ag) (h2 : TSize P t sz) (hc : ∀ j, j < l.length → x.w.cell? ⟨b, o + j, none⟩ = some (vals j))
  (hr : ∀ (j : Nat) (c : C), l[j]? = some c → Rep x.w (x.sh old) c (vals j)) (hl : sz ≤ l.length) (he : ofCs old ag (l.take sz) = some v) :
  ∃ u, (loadVar t ⟨b, o, none⟩).run P x.w = .ok u x.w ∧ RelV x h v u ∧ v.refs = [] := by
 unfold ofCs at he
 cases ag
 ·simp only [Bool.false_eq_true, if_false] at he
  split at he
  ·rename_i c hc1
   injection he with he
   subst he
   have h0 : l[0]? = some c := by
    have := congrArg (fun q : List C => q[0]?) hc1
    simp only [List.getElem?_take, List.getElem?_cons_zero] at this
    split at this
    ·exact this
    ·simp at this
   have hpos : 0 < l.length := (List.getElem?_eq_some_iff.1 h0).1
   have := loadVar_run (P := P) (n := l.length) h1 h2 (by simp; omega) hc
   exact ⟨vals 0, by simpa using this, (hr 0 c h0).ofC, refs_ofC old c⟩
  ·simp at he
 ·simp only [if_true, Option.some.injEq] at he
  subst he
  have := loadVar_run (P := P) (n := l.length) h1 h2 (by simpa using hl) hc
  refine ⟨_, by simpa using this, ?_, ?_⟩
  ·refine .agg _ _ (by simp; omega) fun i b v h3 h4 => ?_
   simp only [List.getElem?_map, List.getElem?_take, Option.map_eq_some_iff] at h3 h4
   obtain ⟨c, hc3, rfl⟩ := h3
   obtain ⟨j, hj, rfl⟩ := h4
   split at hc3
   ·simp only [List.getElem?_eq_some_iff, List.length_range, List.getElem_range] at hj
    obtain ⟨_, rfl⟩ := hj
    exact (hr _ c hc3).ofC
   ·simp at hc3
  ·simp only [AV.refs]
   exact refsL_nil fun b hb => by
    obtain ⟨c, _, rfl⟩ := List.mem_map.1 hb
    exact refs_ofC old c
theorem load_val {y : Operand} {t : TypeId} {ag : Bool} {sz : Nat} (h1 : TAgg P t ag) (h2 : TSize P t sz) (hs : RelS G x st a) {v : AV}
  (he : evR G st.t st.h (.load ag sz (trO y)) = some v) : ∃ p u, a.eval y = .pointer (some p) ∧ (loadVar t p).run P x.w = .ok u x.w ∧ RelV x st.h v u ∧ ∀ id ∈ v.refs, (getO st.h id).isSome := by
 have hr := hs.opd y
 simp only [evR] at he
 split at he
 ·rename_i id off hq
  rw [hq] at hr
  split at he
  ·rename_i cells hg
   split at he
   ·rename_i hle
    obtain ⟨arr, e, hb, hsz, hrel⟩ := hs.inv.obj id _ hg
    cases hr with
    | ptr id off u hv hr =>
     have hu := hr cells hg
     have hc : ∀ j, j < arr.size - off → x.w.cell? ⟨x.φ id, off + j, none⟩ = some (arr.getD (off + j) undef) := fun j hj => by
      rw [cell_of_row x.w _ _ _ _ _ hb]
      have : off + j < arr.size := by omega
      simp [Array.getD, this]
     have hat : ∀ (i : Nat) (b : AV), cells[off + i]? = some b → RelV x st.h b (arr.getD (off + i) undef) := fun i b hb' => by
      obtain ⟨v, hv', _, hr'⟩ := hrel _ _ hb'
      simpa [Array.getD_eq_getD_getElem?, hv'] using hr'
     cases ag
     ·simp only [Bool.false_eq_true, if_false] at he
      split at he
      ·rename_i hsz1
       subst hsz1
       have := loadVar_run (P := P) (n := arr.size - off) h1 h2 (by simp; omega) hc
       refine ⟨_, _, hu, by simpa using this, ?_, fun id' hid => hs.inv.live id _ hg id' (mem_refsL he hid)⟩
       have := hat 0 v (by simpa using he)
       simpa using this
      ·simp at he
     ·simp only [if_true, Option.some.injEq] at he
      subst he
      have := loadVar_run (P := P) (n := arr.size - off) h1 h2 (by simp; omega) hc
      refine ⟨_, _, hu, by simpa using this, ?_, fun id' hid => ?_⟩
      ·refine .agg _ _ (by simp; omega) fun i b v h3 h4 => ?_
       rw [List.getElem?_take] at h3
       split at h3
       ·rw [List.getElem?_drop] at h3
        simp only [List.getElem?_map, Option.map_eq_some_iff] at h4
        obtain ⟨j, hj, rfl⟩ := h4
        simp only [List.getElem?_eq_some_iff, List.length_range, List.getElem_range] at hj
        obtain ⟨_, rfl⟩ := hj
        simpa [Array.getD_eq_getD_getElem?] using hat _ _ h3
       ·simp at h3
      ·simp only [AV.refs] at hid
       obtain ⟨i, b, h3, h4⟩ := mem_refsL_iff.1 hid
       rw [List.getElem?_take] at h3
       split at h3
       ·rw [List.getElem?_drop] at h3
        exact hs.inv.live id _ hg id' (mem_refsL h3 h4)
       ·simp at h3
   ·simp at he
  ·simp at he
 ·rename_i id n i k hq
  rw [hq] at hr
  split at he
  ·rename_i e s old f l hrow
   obtain ⟨hg, hlen⟩ := rowAt_inv hrow
   split at he
   ·rename_i el hel
    split at he
    ·rename_i hle
     have hne : l ≠ [] := by rintro rfl; simp at hel
     obtain ⟨arr, hb, hsz, hcap, _, hpos, h6, h7, h8, _⟩ := hs.inv.obj id _ hg
     have hlt : i < l.length := (List.getElem?_eq_some_iff.1 hel).1
     have hm : (i + 1) * s ≤ arr.size := by
      rw [hsz]
      exact Nat.mul_le_mul_right _ (by omega)
     rw [Nat.add_mul, Nat.one_mul] at hm
     have hels := h6 el (List.mem_of_getElem? hel)
     cases hr with
     | eptr id n i k u hv _ hr =>
      have hu := hr _ _ _ _ _ hg hlen
      obtain ⟨u', hu1, hu2, hu3⟩ := load_data (P := P) (x := x) (h := st.h) (old := old) (l := el.drop k) (b := x.φ id) (o := i * s + k) (vals := fun j => arr.getD (i * s + k + j) undef) h1 h2 (fun j hj => by
        rw [cell_of_row x.w _ _ _ _ _ hb]
        simp at hj
        have : i * s + k + j < arr.size := by omega
        simp [Array.getD, this]) (fun j c hj => by
        rw [List.getElem?_drop] at hj
        obtain ⟨q, hq1, hq2⟩ := h8 i (k + j) el c hel hj
        rw [← Nat.add_assoc] at hq1
        simpa [Array.getD_eq_getD_getElem?, hq1] using hq2) (by simp; omega) he
      exact ⟨_, _, hu, hu1, hu2, by simp [hu3]⟩
    ·simp at he
   ·simp at he
  ·simp at he
 ·rename_i old l hq
  rw [hq] at hr
  split at he
  ·rename_i hle
   generalize hu : a.eval y = u at hr
   cases hr with
   | daddr old l b o' vals hc hr =>
    obtain ⟨u', hu1, hu2, hu3⟩ := load_data (P := P) (h := st.h) h1 h2 (fun j hj => (hc j hj).2) hr hle he
    exact ⟨_, _, rfl, hu1, hu2, by simp [hu3]⟩
  ·simp at he
 ·simp at he
theorem load_ok {o : Oper} {y : Operand} {t : TypeId} {ag : Bool} {sz : Nat} (ho : o.op = .load t y) (h1 : TAgg P t ag) (h2 : TSize P t sz) (hs : RelS G x st a) {v : AV}
  (he : evR G st.t st.h (.load ag sz (trO y)) = some v) : OpOk P o a G x st.h v st.h := by
 obtain ⟨p, u, hp, hu, hr, hl⟩ := load_val (P := P) h1 h2 hs he
 exact OpOk.val hs.inv (by simp [execOp, ho, Instr.loadAt, hp, Instr.sureAddr, hu]) hr hl
end
end Go.Ev
set_option linter.unusedSimpArgs false
set_option linter.unusedVariables false
namespace Go.Ev
section
variable {P : Program} {G : Cf} {x : Cx} {st : St} {a : Act}
def TZero (P : Program) (t : TypeId) (zs : List Value) : Prop := ∃ i z, P.info? t = some i ∧ i.zero = some z ∧ z.cells.toList = zs ∧ zs.all Value.oneCell' = true
theorem cellOk_one {h : Heap} {v : AV} {u : Value} (hr : RelV x h v u) (hc : v.cellOk = true) : u.oneCell' = true := by
 cases hr with
 | undef v => simp [AV.cellOk] at hc
 | s v => simpa [AV.cellOk] using hc
 | sl old l v hr => exact hr.one
 | nilsl => rfl
 | esl a cap => rfl
 | row id n v hv hle hr =>
  cases u <;> simp only [Value.isSlice] at hv
  rfl
 | mp id v hv hr =>
  cases u <;> simp only [Value.isMap] at hv
  rfl
 | ptr id off v hv hr _ =>
  obtain ⟨p, rfl⟩ := isPtr_some hv
  rfl
 | eptr id n i k v hv hle hr =>
  obtain ⟨p, rfl⟩ := isPtr_some hv
  rfl
 | daddr old l b o vals hc hr => rfl
 | agg l vs hl hr => simp [AV.cellOk] at hc
 | tup l vs hl hr => simp [AV.cellOk] at hc
 | ifc t a v hr => rfl
 | clos f l vs hl hr => rfl
structure CellsAt (x : Cx) (h : Heap) (l : List AV) (vs : List Value) : Prop where
 len : l.length = vs.length
 rel : ∀ (i : Nat) (a : AV) (v : Value), l[i]? = some a → vs[i]? = some v → RelV x h a v
 one : ∀ v ∈ vs, v.oneCell' = true
theorem cells_rel {h : Heap} {v : AV} {u : Value} (hr : RelV x h v u) (hc : v.cells.all AV.cellOk = true) : ∃ vs : List Value, u.cells = vs.toArray ∧ CellsAt x h v.cells vs := by
 by_cases hagg : ∃ l, v = .agg l
 ·obtain ⟨l, rfl⟩ := hagg
  obtain ⟨vs, rfl, hl, hrel⟩ := hr.agg_inv
  simp only [AV.cells] at hc ⊢
  refine ⟨vs, rfl, hl, hrel, fun w hw => ?_⟩
  obtain ⟨i, hi, rfl⟩ := List.mem_iff_getElem.1 hw
  have hi' : i < l.length := hl ▸ hi
  exact cellOk_one (hrel i _ _ (List.getElem?_eq_getElem hi') (List.getElem?_eq_getElem hi)) (List.all_eq_true.1 hc _ (List.getElem_mem hi'))
 ·have h1 : v.cells = [v] := by
   cases v <;> first
    | rfl
    | exact absurd ⟨_, rfl⟩ hagg
  rw [h1] at hc ⊢
  have hone := cellOk_one hr (by simpa using hc)
  refine ⟨[u], ?_, rfl, fun i b w h2 h3 => ?_, by simpa using hone⟩
  ·cases u <;> first
    | rfl
    | (simp [Value.oneCell'] at hone; done)
  ·cases i with
   | zero => simp at h2 h3; subst h2 h3; exact hr
   | succ i => simp at h2
theorem cells_refs {v : AV} {id : Nat} (h : id ∈ refsL v.cells) : id ∈ v.refs := by
 cases v <;> simp_all [AV.cells, refsL, AV.refs]
theorem alloc1 {s : Nat} {o : Obj} {h h' : Heap} (ha : alloc [(s, o)] h = some h') : h[s]? = some none ∧ h' = h.set s (some o) := by
 simp only [alloc] at ha
 split at ha
 ·rename_i hs
  injection ha with ha
  exact ⟨hs, ha.symm⟩
 ·simp at ha
theorem OpOk.var {o : Oper} {h h' : Heap} {s : Nat} {l : List AV} {vs : List Value} {e : TypeId} {w' : World} (hi : Inv G x h) (ha : alloc [(s, .var l)] h = some h')
  (hr : (execOp a.eval o).run P x.w = .ok (.value (.pointer (some ⟨x.w.heap.size, 0, none⟩))) w') (hm : Made x.w w' vs.toArray e (0, 0)) (hc : CellsAt x h l vs) (hl : ∀ id ∈ refsL l, (getO h id).isSome) :
  OpOk P o a G x h (.ptr s 0) h' := fun K Q hK => by
 obtain ⟨hs, rfl⟩ := alloc1 ha
 have hlt : s < h.length := (List.getElem?_eq_some_iff.1 hs).1
 have hst := Step.make (h := h) (cap := 0) (o := .var l) hm hi.sh hs
 have hlive : ∀ j ∈ refsL l, (getO (h.set s (some (.var l))) j).isSome := fun j hj => (hst.evo j trivial (hl j hj)).2
 have hinv : Inv G (x.make w' s 0) (h.set s (some (.var l))) := by
  refine hi.make hm hs ⟨vs.toArray, e, ?_, by simp [hc.len], fun i b hb => ?_⟩ hlive
  ·simpa [Cx.make] using hm.new
  ·have hi' : i < vs.length := hc.len ▸ (List.getElem?_eq_some_iff.1 hb).1
   refine ⟨vs[i], by simp [hi'], hc.one _ (List.getElem_mem hi'), ?_⟩
   exact (hc.rel i b _ hb (List.getElem?_eq_getElem hi')).step hst fun id hid => ⟨trivial, hl id (mem_refsL hb hid)⟩
 unfold Oper.wp
 rw [hr]
 refine hK (x.make w' s 0) _ hinv hst (.ptr s 0 _ trivial (fun cs _ => by simp [Cx.make]) fun d _ => by simp [Cx.make]) fun id hid => ?_
 simp only [AV.refs, List.mem_singleton] at hid
 subst hid
 rw [getO_set hlt, if_pos rfl]
 rfl
theorem made_alloc (w : World) (arr : Array Value) (e : TypeId) : Made w (w.alloc (.cells arr e)) arr e (0, 0) := ⟨rfl, rfl, rfl, rfl, fun o _ h => by omega⟩
theorem new_ok {o : Oper} {t : TypeId} {zs : List Value} {s : Nat} {h' : Heap} (ho : o.op = .alloc t) (hz : TZero P t zs) (hs : RelS G x st a) (ha : alloc [(s, .var (zs.map ofV1))] st.h = some h') : OpOk P o a G x st.h (.ptr s 0) h' := by
 obtain ⟨i, z, h1, h2, h3, h4⟩ := hz
 refine OpOk.var (vs := zs) (e := t) (w' := x.w.alloc (.cells zs.toArray t)) hs.inv ha ?_ (made_alloc _ _ _) ⟨by simp, fun i b v h5 h6 => ?_, fun v hv => List.all_eq_true.1 h4 v hv⟩ fun id hid => ?_
 ·simp [execOp, ho, Instr.alloc, zeroValue, typeInfo, h1, h2, newVar, newRow, ← h3]
 ·simp only [List.getElem?_map, h6, Option.map_some, Option.some.injEq] at h5
  subst h5
  exact .ofV1 _ _ _
 ·rw [refsL_nil fun b hb => by obtain ⟨v, _, rfl⟩ := List.mem_map.1 hb; exact refs_ofV1 v] at hid
  simp at hid
theorem box_ok {o : Oper} {t : TypeId} {y : Operand} {s : Nat} {h' : Heap} (ho : o.op = .box t y) (hs : RelS G x st a) (hc : (rho G st.t (trO y)).cells.all AV.cellOk = true) (ha : alloc [(s, .var (rho G st.t (trO y)).cells)] st.h = some h') :
  OpOk P o a G x st.h (.ptr s 0) h' := by
 obtain ⟨vs, hv, hcells⟩ := cells_rel (hs.opd y) hc
 refine OpOk.var (e := t) (w' := x.w.alloc (.cells vs.toArray t)) hs.inv ha ?_ (made_alloc _ _ _) hcells fun id hid => hs.opdRefs y id (cells_refs hid)
 simp [execOp, ho, Instr.box, newVar, newRow, hv]
theorem foldl_set (off : Nat) : ∀ (us : List Value) (k : Nat) (arr : Array Value), off + k + us.length ≤ arr.size →
  ((us.zipIdx k).foldl (fun cs (p : Value × Nat) => cs.setIfInBounds (off + p.2) p.1) arr).toList = arr.toList.take (off + k) ++ us ++ arr.toList.drop (off + k + us.length)
 | [], k, arr, _ => by simp
 | u :: us, k, arr, h => by
  simp only [List.length_cons] at h
  rw [List.zipIdx_cons, List.foldl_cons, foldl_set off us (k + 1) _ (by simp; omega)]
  have hk : off + k < arr.toList.length := by simp; omega
  simp only [Array.toList_setIfInBounds, List.length_cons]
  rw [List.set_eq_take_append_cons_drop, if_pos hk]
  have e1 : off + (k + 1) = off + k + 1 := by omega
  have e2 : (arr.toList.take (off + k)).length = off + k := by simp; omega
  rw [e1]
  have t1 : (List.take (off + k) arr.toList ++ u :: List.drop (off + k + 1) arr.toList).take (off + k + 1) = List.take (off + k) arr.toList ++ [u] := by
   rw [List.take_append, e2, List.take_of_length_le (by simp; omega)]
   simp
  have t2 : (List.take (off + k) arr.toList ++ u :: List.drop (off + k + 1) arr.toList).drop (off + k + 1 + us.length) = List.drop (off + k + (us.length + 1)) arr.toList := by
   rw [List.drop_append, e2]
   have : (off + k + 1 + us.length - (off + k)) = us.length + 1 := by omega
   rw [this, List.drop_eq_nil_of_le (by simp; omega)]
   simp only [List.nil_append, List.drop_succ_cons, List.drop_drop]
   congr 1
   omega
  rw [t1, t2]
  simp
theorem fill_one {place : Nat → Option (Nat × Nat)} {cells us : List Value} {i off sz : Nat} {v : Value} {rest : List (Nat × Value)} (hp : place i = some (off, sz)) (hv : v.cells = us.toArray) (hsz : us.length = sz) (hle : off + sz ≤ cells.length) :
  Instr.fill place cells.toArray ((i, v) :: rest) = Instr.fill place (cells.take off ++ us ++ cells.drop (off + us.length)).toArray rest := by
 simp only [Instr.fill, hp]
 rw [if_neg (by simp [hv, hsz]; omega)]
 congr 1
 apply Array.ext'
 have := foldl_set off us 0 cells.toArray (by simp; omega)
 rw [hv, ← Array.foldl_toList, Array.toList_zipIdx]
 simpa using this
def Places (P : Program) (t : TypeId) (pl : Nat → Option (Nat × Nat)) : Prop :=
 (∃ fs : Array Field, P.underlying t = some (.struct fs) ∧ (∀ f ∈ fs.toList, (P.info? f.type).isSome) ∧ pl = fun i => (fs[i]?).map fun f => (f.offset, P.cellsOf f.type)) ∨
 (∃ n e, P.underlying t = some (.array n e) ∧ (P.info? e).isSome ∧ pl = fun i => some (i * P.cellsOf e, P.cellsOf e))
def trParts (pl : Nat → Option (Nat × Nat)) (n : Nat) : List (Nat × Operand) → Option (List (Nat × Nat × O))
 | [] => some []
 | (i, y) :: r => match pl i, trParts pl n r with
  | some (off, sz), some ps => if off + sz ≤ n then some ((off, sz, trO y) :: ps) else none
  | _, _ => none
theorem cellsAt_fill {h : Heap} {l p : List AV} {vs us : List Value} {off : Nat} (h1 : CellsAt x h l vs) (h2 : CellsAt x h p us) (hle : off + us.length ≤ vs.length) :
  CellsAt x h (l.take off ++ p ++ l.drop (off + p.length)) (vs.take off ++ us ++ vs.drop (off + us.length)) := by
 have hl := h1.len
 have hp := h2.len
 refine ⟨by simp; omega, fun i b v hb hv => ?_, fun v hv => ?_⟩
 ·by_cases c1 : i < off
  ·rw [List.append_assoc, List.getElem?_append_left (by simp; omega), List.getElem?_take, if_pos c1] at hb hv
   exact h1.rel i b v hb hv
  ·by_cases c2 : i < off + us.length
   ·rw [List.append_assoc, List.getElem?_append_right (by simp; omega), List.getElem?_append_left (by simp; omega)] at hb hv
    have e1 : (l.take off).length = off := by simp; omega
    have e2 : (vs.take off).length = off := by simp; omega
    rw [e1] at hb
    rw [e2] at hv
    exact h2.rel _ b v hb hv
   ·rw [List.getElem?_append_right (by simp; omega)] at hb hv
    have e1 : (l.take off ++ p).length = off + us.length := by simp; omega
    have e2 : (vs.take off ++ us).length = off + us.length := by simp; omega
    rw [e1, List.getElem?_drop, hp] at hb
    rw [e2, List.getElem?_drop] at hv
    exact h1.rel _ b v hb hv
 ·simp only [List.mem_append] at hv
  rcases hv with (hv | hv) | hv
  ·exact h1.one v (List.mem_of_mem_take hv)
  ·exact h2.one v hv
  ·exact h1.one v (List.mem_of_mem_drop hv)
theorem fillA_rel (hs : RelS G x st a) {pl : Nat → Option (Nat × Nat)} : ∀ (parts : List (Nat × Operand)) (ps : List (Nat × Nat × O)) (qs : List (Nat × List AV)) (l : List AV) (vs : List Value), trParts pl vs.length parts = some ps → partsA G st.t ps = some qs → CellsAt x st.h l vs →
  ∃ us : List Value, Instr.fill pl vs.toArray (parts.map fun p => (p.1, a.eval p.2)) = some us.toArray ∧ CellsAt x st.h (fillA l qs) us ∧ us.length = vs.length ∧ ∀ id ∈ refsL (fillA l qs), id ∈ refsL l ∨ (getO st.h id).isSome
 | [], ps, qs, l, vs, h1, h2, h3 => by
  simp only [trParts, Option.some.injEq] at h1
  subst h1
  simp only [Ev.partsA, Option.some.injEq] at h2
  subst h2
  exact ⟨vs, rfl, h3, rfl, fun id hid => .inl hid⟩
 | (i, y) :: r, ps, qs, l, vs, h1, h2, h3 => by
  simp only [trParts] at h1
  split at h1
  ·rename_i off sz ps' hp hr
   split at h1
   ·rename_i hle
    injection h1 with h1
    subst h1
    simp only [Ev.partsA] at h2
    split at h2
    ·rename_i qs' hq
     split at h2
     ·rename_i hc
      injection h2 with h2
      subst h2
      obtain ⟨us, hu, hcell⟩ := cells_rel (hs.opd y) hc.2
      have hul : us.length = sz := by rw [← hcell.len]; exact hc.1
      have hlen : (vs.take off ++ us ++ vs.drop (off + us.length)).length = vs.length := by simp; omega
      obtain ⟨vs', h4, h5, h6, h7⟩ := fillA_rel hs r ps' qs' _ _ (hlen.symm ▸ hr) hq (cellsAt_fill h3 hcell (by omega))
      refine ⟨vs', ?_, h5, by omega, fun id hid => ?_⟩
      ·rw [List.map_cons, fill_one hp hu hul hle]
       exact h4
      ·rcases h7 id hid with h8 | h8
       ·obtain ⟨j, b, h9, h10⟩ := mem_refsL_iff.1 h8
        have hb := List.mem_of_getElem? h9
        simp only [List.mem_append] at hb
        rcases hb with (hb | hb) | hb
        ·obtain ⟨k, hk⟩ := List.getElem?_of_mem (List.mem_of_mem_take hb)
         exact .inl (mem_refsL hk h10)
        ·obtain ⟨k, hk⟩ := List.getElem?_of_mem hb
         exact .inr (hs.opdRefs y id (cells_refs (mem_refsL hk h10)))
        ·obtain ⟨k, hk⟩ := List.getElem?_of_mem (List.mem_of_mem_drop hb)
         exact .inl (mem_refsL hk h10)
       ·exact .inr h8
     ·simp at h2
    ·simp at h2
   ·simp at h1
  ·simp at h1
theorem cellsAt_zero {h : Heap} {zs : List Value} (hz : zs.all Value.oneCell' = true) : CellsAt x h (zs.map ofV1) zs :=
 ⟨by simp, fun i b v h5 h6 => by
  simp only [List.getElem?_map, h6, Option.map_some, Option.some.injEq] at h5
  subst h5
  exact .ofV1 _ _ _, fun v hv => List.all_eq_true.1 hz v hv⟩
theorem refsL_zero (zs : List Value) : refsL (zs.map ofV1) = [] := refsL_nil fun b hb => by
 obtain ⟨v, _, rfl⟩ := List.mem_map.1 hb
 exact refs_ofV1 v
theorem mapM_places {w : World} : ∀ (fs : List Field), (∀ f ∈ fs, (P.info? f.type).isSome) → (fs.mapM fun f => (do pure (f.offset, ← sizeOf f.type) : Sem (Nat × Nat))).run P w = .ok (fs.map fun f => (f.offset, P.cellsOf f.type)) w
 | [], _ => rfl
 | f :: fs, h => by
  obtain ⟨i, hi⟩ := Option.isSome_iff_exists.1 (h f (by simp))
  have ih := mapM_places (w := w) fs fun g hg => h g (by simp [hg])
  have h0 : (sizeOf f.type).run P w = .ok (P.cellsOf f.type) w := by simp [sizeOf, typeInfo, hi, Program.cellsOf]
  rw [List.mapM_cons]
  simp only [Sem.run_bind, h0, Result.andThen_ok, Sem.run_pure]
  rw [ih]
  rfl
theorem build_ok {o : Oper} {t : TypeId} {parts : Array (Nat × Operand)} {zs : List Value} {pl : Nat → Option (Nat × Nat)} {ps : List (Nat × Nat × O)} (ho : o.op = .build t parts) (hz : TZero P t zs) (hpl : Places P t pl) (htr : trParts pl zs.length parts.toList = some ps)
  (hs : RelS G x st a) {qs : List (Nat × List AV)} (hq : partsA G st.t ps = some qs) : OpOk P o a G x st.h (.agg (fillA (zs.map ofV1) qs)) st.h := by
 obtain ⟨i, z, h1, h2, h3, h4⟩ := hz
 obtain ⟨us, hu, hc, _, hl⟩ := fillA_rel hs parts.toList ps qs _ zs htr hq (cellsAt_zero h4)
 refine OpOk.val hs.inv (u := .agg us.toArray) ?_ (.agg _ _ hc.len hc.rel) fun id hid => (hl id hid).elim (fun h => by rw [refsL_zero] at h; simp at h) fun h => h
 have hz' : (zeroValue t).run P x.w = .ok z x.w := by simp [zeroValue, typeInfo, h1, h2]
 have hz2 : z.cells = zs.toArray := by rw [← h3]
 have hpm : (parts.map fun p => (p.1, a.eval p.2)).toList = parts.toList.map fun p => (p.1, a.eval p.2) := by simp
 rcases hpl with ⟨fs, hf, hfi, rfl⟩ | ⟨n, e, hf, hfi, rfl⟩
 ·have hm : (fs.mapM fun f => (do pure (f.offset, ← sizeOf f.type) : Sem (Nat × Nat))).run P x.w = .ok (fs.map fun f => (f.offset, P.cellsOf f.type)) x.w := by
   rw [Array.mapM_eq_mapM_toList]
   simp only [Sem.run_map, mapM_places fs.toList hfi, Result.andThen_ok]
   congr 1
   apply Array.ext'
   simp
  have hplace : (fun i : Nat => (fs.map fun f : Field => (f.offset, P.cellsOf f.type))[i]?) = fun i => (fs[i]?).map fun f : Field => (f.offset, P.cellsOf f.type) := by
   funext i
   simp
  simp only [execOp, ho, Instr.build, Sem.run_bind, hz', Result.andThen_ok, run_underlying hf, hm, hz2]
  rw [hplace, hpm, hu]
  rfl
 ·obtain ⟨ie, hie⟩ := Option.isSome_iff_exists.1 hfi
  have h0 : (sizeOf e).run P x.w = .ok (P.cellsOf e) x.w := by simp [sizeOf, typeInfo, hie, Program.cellsOf]
  simp only [execOp, ho, Instr.build, Sem.run_bind, hz', Result.andThen_ok, run_underlying hf, h0, hz2]
  rw [hpm, hu]
  rfl
end
end Go.Ev
set_option linter.unusedSimpArgs false
set_option linter.unusedVariables false
namespace Go.Ev
section
variable {P : Program} {G : Cf} {x : Cx} {st : St} {a : Act}
theorem sh_le {b o : Nat} {p q : Bool} (h : x.sh p b o) (hq : p = true → q = true) : x.sh q b o := ⟨h.1, h.2.imp hq id⟩
theorem Rep.le {c : C} {v : Value} {p q : Bool} (hr : Rep x.w (x.sh p) c v) (hq : p = true → q = true) : Rep x.w (x.sh q) c v := hr.mono fun _ _ h => ⟨sh_le h hq, rfl⟩
theorem Rep.cOf {S : Nat → Nat → Prop} {w : World} {v : Value} (h : v.oneCell' = true) : Rep w S (cOf v) v := by
 unfold Ev.cOf
 split
 ·exact .nil none 0 fun _ => rfl
 ·exact .sc _ h
theorem toC_rel {h : Heap} {v : AV} {u : Value} {c : C} (hr : RelV x h v u) (hc : v.toC = some c) : Rep x.w (x.sh v.isOld) c u := by
 cases v <;> simp only [AV.toC] at hc <;> try (simp at hc; done)
 ·split at hc
  ·rename_i ho
   injection hc with hc
   subst hc
   rw [hr.s_inv]
   exact .sc _ ho
  ·simp at hc
 ·injection hc with hc
  subst hc
  cases hr with
  | sl old l v hr => exact hr
 ·injection hc with hc
  subst hc
  rw [hr.nilsl_inv]
  exact .nil none 0 fun _ => rfl
theorem toCs_rel {h : Heap} : ∀ {l : List AV} {vs : List Value} {cs : List C}, l.length = vs.length → (∀ (i : Nat) (a : AV) (v : Value), l[i]? = some a → vs[i]? = some v → RelV x h a v) → toCs l = some cs →
  cs.length = vs.length ∧ ∀ (k : Nat) (c : C), cs[k]? = some c → ∃ v, vs[k]? = some v ∧ Rep x.w (x.sh (isOldL l)) c v
 | [], vs, cs, hl, _, hc => by
  simp only [toCs, Option.some.injEq] at hc
  subst hc
  exact ⟨hl, fun k c h => by simp at h⟩
 | b :: l, vs, cs, hl, hr, hc => by
  cases vs with
  | nil => simp at hl
  | cons v vs =>
   simp only [toCs] at hc
   split at hc
   ·rename_i c r h1 h2
    injection hc with hc
    subst hc
    obtain ⟨h3, h4⟩ := toCs_rel (l := l) (vs := vs) (by simpa using hl) (fun i a v h5 h6 => hr (i + 1) a v (by simpa using h5) (by simpa using h6)) h2
    refine ⟨by simp [h3], fun k c' hk => ?_⟩
    cases k with
    | zero =>
     simp only [List.getElem?_cons_zero, Option.some.injEq] at hk
     subst hk
     exact ⟨v, rfl, (toC_rel (hr 0 b v rfl rfl) h1).le fun h => by simp [isOldL, h]⟩
    | succ k =>
     obtain ⟨v', h5, h6⟩ := h4 k c' (by simpa using hk)
     exact ⟨v', by simpa using h5, h6.le fun h => by simp [isOldL, h]⟩
   ·simp at hc
structure RowIs (x : Cx) (old : Bool) (sz : Nat) (l : List (List C)) (arr : List Value) : Prop where
 size : arr.length = l.length * sz
 els : ∀ e ∈ l, e.length = sz
 one : ∀ v ∈ arr, v.oneCell' = true
 rep : ∀ (i k : Nat) (e : List C) (c : C), l[i]? = some e → e[k]? = some c → ∃ v, arr[i * sz + k]? = some v ∧ Rep x.w (x.sh old) c v
theorem RowIs.le {p q : Bool} {sz : Nat} {l : List (List C)} {arr : List Value} (h : RowIs x p sz l arr) (hq : p = true → q = true) : RowIs x q sz l arr :=
 ⟨h.size, h.els, h.one, fun i k e c h1 h2 => let ⟨v, h3, h4⟩ := h.rep i k e c h1 h2; ⟨v, h3, h4.le hq⟩⟩
theorem RowIs.set {old : Bool} {sz i : Nat} {l : List (List C)} {arr us : List Value} {e : List C} (h : RowIs x old sz l arr) (hi : i < l.length) (he : e.length = sz) (hu : us.length = sz) (ho : ∀ v ∈ us, v.oneCell' = true)
  (hr : ∀ (k : Nat) (c : C), e[k]? = some c → ∃ v, us[k]? = some v ∧ Rep x.w (x.sh old) c v) : RowIs x old sz (l.set i e) (arr.take (i * sz) ++ us ++ arr.drop (i * sz + us.length)) := by
 have hm : (i + 1) * sz ≤ arr.length := by rw [h.size]; exact Nat.mul_le_mul_right _ hi
 rw [Nat.add_mul, Nat.one_mul] at hm
 have hsz := h.size
 refine ⟨by simp only [List.length_append, List.length_take, List.length_drop, List.length_set]; omega, fun f hf => ?_, fun v hv => ?_, fun j k f c h1 h2 => ?_⟩
 ·rcases List.mem_or_eq_of_mem_set hf with hf | hf
  ·exact h.els f hf
  ·rw [hf]; exact he
 ·simp only [List.mem_append] at hv
  rcases hv with (hv | hv) | hv
  ·exact h.one v (List.mem_of_mem_take hv)
  ·exact ho v hv
  ·exact h.one v (List.mem_of_mem_drop hv)
 ·by_cases hij : i = j
  ·subst hij
   rw [List.getElem?_set_self hi] at h1
   injection h1 with h1
   subst h1
   obtain ⟨v, h3, h4⟩ := hr k c h2
   refine ⟨v, ?_, h4⟩
   have hk : k < us.length := (List.getElem?_eq_some_iff.1 h3).1
   rw [List.append_assoc, List.getElem?_append_right (by simp; omega), List.getElem?_append_left (by simp; omega)]
   have : (arr.take (i * sz)).length = i * sz := by simp; omega
   rw [this]
   rw [show i * sz + k - i * sz = k by omega]
   exact h3
  ·rw [List.getElem?_set_ne hij] at h1
   obtain ⟨v, h3, h4⟩ := h.rep j k f c h1 h2
   refine ⟨v, ?_, h4⟩
   have hk : k < sz := by
    have := (List.getElem?_eq_some_iff.1 h2).1
    rw [h.els f (List.mem_of_getElem? h1)] at this
    exact this
   rcases Nat.lt_or_gt_of_ne hij with hlt | hgt
   ·have hm2 : (i + 1) * sz ≤ j * sz := Nat.mul_le_mul_right _ hlt
    rw [Nat.add_mul, Nat.one_mul] at hm2
    rw [List.getElem?_append_right (by simp; omega)]
    have : (arr.take (i * sz) ++ us).length = i * sz + us.length := by simp; omega
    rw [this, List.getElem?_drop, show i * sz + us.length + (j * sz + k - (i * sz + us.length)) = j * sz + k by omega]
    exact h3
   ·have hm2 : (j + 1) * sz ≤ i * sz := Nat.mul_le_mul_right _ hgt
    rw [Nat.add_mul, Nat.one_mul] at hm2
    rw [List.append_assoc, List.getElem?_append_left (by simp; omega), List.getElem?_take, if_pos (by omega)]
    exact h3
def trPartsE : List (Nat × Operand) → List (Nat × O) := List.map fun p => (p.1, trO p.2)
theorem fillE_rel (hs : RelS G x st a) {sz n : Nat} : ∀ (parts : List (Nat × Operand)) (qs : List (Nat × List C)) (l : List (List C)) (arr : List Value) (old : Bool), partsE G st.t sz n (trPartsE parts) = some qs → l.length = n → RowIs x old sz l arr →
    (isOldParts G st.t (trPartsE parts) = true → old = true) →
    ∃ us : List Value, Instr.fill (fun i => some (i * sz, sz)) arr.toArray (parts.map fun p => (p.1, a.eval p.2)) = some us.toArray ∧ RowIs x old sz (fillE l qs) us ∧ (fillE l qs).length = n
  | [], qs, l, arr, old, h1, h2, h3, _ => by
    simp only [trPartsE, List.map_nil, partsE, Option.some.injEq] at h1
    subst h1
    exact ⟨arr, rfl, h3, h2⟩
  | (i, y) :: r, qs, l, arr, old, h1, h2, h3, h4 => by
    simp only [trPartsE, List.map_cons, partsE] at h1
    split at h1
    · rename_i qs' e hq hcs
      split at h1
      · rename_i hc
        injection h1 with h1
        subst h1
        have hok : ∀ {l : List AV} {cs : List C}, toCs l = some cs → l.all AV.cellOk = true := by
          intro l
          induction l with
          | nil => intro _ _; rfl
          | cons b l ih =>
            intro cs h
            simp only [toCs] at h
            split at h
            · rename_i c r' h5 h6
              have hb : b.cellOk = true := by
                cases b <;> simp only [AV.toC] at h5 <;> first
                  | (simp at h5; done)
                  | rfl
                  | (split at h5
                     · simpa [AV.cellOk]
                     · simp at h5)
              simp [hb, ih h6]
            · simp at h
        obtain ⟨us, hu, hcell⟩ := cells_rel (hs.opd y) (hok hcs)
        obtain ⟨h5, h6⟩ := toCs_rel hcell.len hcell.rel hcs
        have hold : isOldL (rho G st.t (trO y)).cells = true → old = true := fun h => h4 (by
          simp only [trPartsE, List.map_cons, isOldParts, Bool.or_eq_true]
          left
          revert h
          generalize rho G st.t (trO y) = q
          cases q <;> simp [AV.cells, isOldL, AV.isOld])
        have hul : us.length = sz := by rw [← h5]; exact hc.1
        have h7 := h3.set (i := i) (e := e) (us := us) (by omega) hc.1 hul hcell.one fun k c hk => by
          obtain ⟨v, h8, h9⟩ := h6 k c hk
          exact ⟨v, h8, h9.le hold⟩
        obtain ⟨vs', h8, h9, h10⟩ := fillE_rel hs r qs' (l.set i e) _ old hq (by simpa using h2) h7 (fun h => h4 (by simp only [trPartsE, List.map_cons, isOldParts, Bool.or_eq_true]; exact .inr h))
        have hm : (i + 1) * sz ≤ arr.length := by rw [h3.size, h2]; exact Nat.mul_le_mul_right _ (by omega)
        rw [Nat.add_mul, Nat.one_mul] at hm
        exact ⟨vs', by rw [List.map_cons, fill_one rfl hu hul hm]; exact h8, h9, h10⟩
      · simp at h1
    · simp at h1
theorem madeCells_get {z : Array Value} {n sz j : Nat} (hz : z.size = sz) (hj : j < n * sz) : (madeCells z (n * sz))[j]? = z[j % sz]? := by
 have hpos : 0 < sz := by
  rcases Nat.eq_zero_or_pos sz with h | h
  ·rw [h] at hj; simp at hj
  ·exact h
 have hlt : j % z.size < z.size := by rw [hz]; exact Nat.mod_lt _ hpos
 have : (madeCells z (n * sz))[j]? = some (z[j % z.size]!) := by simp [madeCells, hj]
 rw [this, hz]
 rw [hz] at hlt
 have hlt' : j % sz < z.size := by omega
 simp [hlt']
theorem rowIs_zero {zs : List Value} {z : Array Value} {sz n : Nat} {old : Bool} (hz : z.toList = zs) (ho : zs.all Value.oneCell' = true) (hs : zs.length = sz) : RowIs x old sz (List.replicate n (zs.map cOf)) (madeCells z (n * sz)).toList := by
 have hzs : z.size = sz := by rw [← hs, ← hz]; simp
 refine ⟨by simp [size_madeCells], fun e he => by rw [List.eq_of_mem_replicate he]; simpa using hs, fun v hv => ?_, fun i k e c h1 h2 => ?_⟩
 ·obtain ⟨j, hj, hv'⟩ := List.mem_iff_getElem.1 hv
  have hj' : j < n * sz := by simpa [size_madeCells] using hj
  have := madeCells_get hzs hj'
  have h2 : (madeCells z (n * sz))[j]? = some v := by
   rw [← Array.getElem?_toList, List.getElem?_eq_getElem hj, hv']
  rw [h2] at this
  have hm : v ∈ zs := by
   rw [← hz]
   exact Array.mem_toList_iff.2 (Array.mem_of_getElem? this.symm)
  exact List.all_eq_true.1 ho v hm
 ·rw [List.getElem?_replicate] at h1
  split at h1
  ·rename_i hi
   injection h1 with h1
   subst h1
   simp only [List.getElem?_map, Option.map_eq_some_iff] at h2
   obtain ⟨v, hv, rfl⟩ := h2
   have hk : k < sz := by rw [← hs]; exact (List.getElem?_eq_some_iff.1 hv).1
   have hm : (i + 1) * sz ≤ n * sz := Nat.mul_le_mul_right _ hi
   rw [Nat.add_mul, Nat.one_mul] at hm
   refine ⟨v, ?_, Rep.cOf (List.all_eq_true.1 ho v (List.mem_of_getElem? hv))⟩
   rw [Array.getElem?_toList, madeCells_get hzs (by omega)]
   rw [Nat.mul_comm i sz, Nat.mul_add_mod, Nat.mod_eq_of_lt hk]
   rw [← hz] at hv
   simpa using hv
  ·simp at h1
theorem OpOk.mkrow {o : Oper} {h h' : Heap} {s n sz : Nat} {old : Bool} {l : List (List C)} {arr : List Value} {e : TypeId} {w' : World} (hi : Inv G x h) (hB : x.B0 ≤ x.w.heap.size) (ha : alloc [(s, .row e sz old false l)] h = some h') (hpos : 0 < sz) (hmax : n ≤ maxLen) (hl : l.length = n)
  (hr : (execOp a.eval o).run P x.w = .ok (.value (.slice (some ⟨x.w.heap.size, 0, none⟩) n n)) w') (hm : Made x.w w' arr.toArray e (0, 0)) (hrow : RowIs x old sz l arr) :
  OpOk P o a G x h (.row s n) h' := fun K Q hK => by
 obtain ⟨hs, rfl⟩ := alloc1 ha
 have hlt : s < h.length := (List.getElem?_eq_some_iff.1 hs).1
 have hst := Step.make (h := h) (cap := n) (o := .row e sz old false l) hm hi.sh hs
 have hinv : Inv G (x.make w' s n) (h.set s (some (.row e sz old false l))) := by
  refine hi.make hm hs ⟨arr.toArray, ?_, ?_, ?_, ?_, hpos, hrow.els, fun v hv => hrow.one v (by simpa using hv), fun i k e c h1 h2 => ?_, fun h => by simp at h, fun _ => by simpa [Cx.make] using hB⟩ (by simp [Obj.refs])
  ·simpa [Cx.make] using hm.new
  ·simp [Cx.make, hrow.size, hl]
  ·simp [Cx.make, hl]
  ·simpa [Cx.make] using hmax
  ·obtain ⟨v, h3, h4⟩ := hrow.rep i k e c h1 h2
   exact ⟨v, by simpa using h3, h4.mono (hst.ext.sh old)⟩
 unfold Oper.wp
 rw [hr]
 refine hK (x.make w' s n) _ hinv hst (.row s n _ trivial (fun e' s' o' f' l' hg => ?_) fun e' s' o' f' l' hg _ => by simp [Cx.make]) fun id hid => ?_
 ·rw [getO_set hlt, if_pos rfl] at hg
  injection hg with hg
  injection hg with _ _ _ _ h5
  subst h5
  omega
 ·simp only [AV.refs, List.mem_singleton] at hid
  subst hid
  rw [getO_set hlt, if_pos rfl]
  rfl
theorem OpOk.mkdata {o : Oper} {h : Heap} {n cap sz : Nat} {old : Bool} {l : List (List C)} {arr : List Value} {e : TypeId} {fr : Nat × Nat} {w' : World} (hi : Inv G x h) (hB : x.B0 ≤ x.w.heap.size) (hl : l.length = n) (hcap : n ≤ cap)
  (hr : (execOp a.eval o).run P x.w = .ok (.value (.slice (some ⟨x.w.heap.size, 0, none⟩) n cap)) w') {full : Array Value} (hm : Made x.w w' full e fr) (hfull : ∀ (j : Nat) (v : Value), arr[j]? = some v → full[j]? = some v) (hrow : RowIs x old sz l arr) :
  OpOk P o a G x h (.sl old l) h := fun K Q hK => by
 have hst := Step.lay (h := h) hm hi.sh (n * sz)
 unfold Oper.wp
 rw [hr]
 refine hK (x.lay w' (n * sz)) _ (hi.lay hm _) hst (.sl old l _ ?_) (by simp [AV.refs])
 subst hl
 by_cases hne : l = []
 ·subst hne
  exact .nil _ _ (by simp)
 ·refine .sl l sz x.w.heap.size 0 cap (fun j => arr.getD j undef) hne hrow.els hcap (fun j hj => ⟨⟨.inr ⟨rfl, by omega⟩, .inr hB⟩, ?_⟩) fun i k e c h1 h2 => ?_
  ·have hj' : j < arr.length := by rw [hrow.size]; exact hj
   rw [Nat.zero_add]
   refine (hm.cellNew j).trans ?_
   rw [hfull j _ (List.getElem?_eq_getElem hj')]
   simp [List.getD, hj']
  ·obtain ⟨v, h3, h4⟩ := hrow.rep i k e c h1 h2
   have := h4.mono (hst.ext.sh old)
   simpa [List.getD, h3] using this
theorem buildSlice_run {t e : TypeId} {zs us : List Value} {n sz : Nat} {parts : List (Nat × Value)} {w : World} (h1 : P.underlying t = some (.slice e)) (hz : TZero P e zs) (h2 : TSize P e sz) (hle : n * sz ≤ 2 ^ 24)
  (hf : ∀ z : Array Value, z.toList = zs → Instr.fill (fun i => some (i * sz, sz)) (madeCells z (n * sz)) parts = some us.toArray) :
  (Instr.buildSlice t n parts.toArray).run P w = .ok (.slice (some ⟨w.heap.size, 0, none⟩) n n) (w.alloc (.cells us.toArray e)) := by
 obtain ⟨i, z, h3, h4, h5, h6⟩ := hz
 have hz' : (zeroValue e).run P w = .ok z w := by simp [zeroValue, typeInfo, h3, h4]
 simp only [Instr.buildSlice, Sem.run_bind, run_underlying h1, Result.andThen_ok, sizeOf_run h2]
 rw [if_neg (by omega)]
 by_cases h0 : n * sz = 0
 ·have := hf z.cells h5
  rw [h0] at this
  simp only [h0, if_true]
  have e0 : madeCells z.cells 0 = #[] := by simp [madeCells, Array.range_zero']
  rw [e0] at this
  simp [this, newRow, Array.range_zero']
 ·have := hf z.cells h5
  simp only [h0, if_false, hz', Sem.run_pure, Sem.run_bind, Result.andThen_ok]
  unfold madeCells at this
  simp [this, newRow]
theorem lit_ok {o : Oper} {t e : TypeId} {parts : Array (Nat × Operand)} {zs : List Value} {s n sz : Nat} {h' : Heap} (ho : o.op = .buildSlice t n parts) (h1 : P.underlying t = some (.slice e)) (hz : TZero P e zs) (h2 : TSize P e sz) (hlen : zs.length = sz) (hpos : 0 < sz) (hle : n * sz ≤ 2 ^ 24)
  (hs : RelS G x st a) {qs : List (Nat × List C)} (hq : partsE G st.t sz n (trPartsE parts.toList) = some qs)
  (ha : alloc [(s, .row e sz (isOldParts G st.t (trPartsE parts.toList)) false (fillE (List.replicate n (zs.map cOf)) qs))] st.h = some h') : OpOk P o a G x st.h (.row s n) h' := by
 obtain ⟨i, z, h3, h4, h5, h6⟩ := hz
 obtain ⟨us, hu, hrow, hl⟩ := fillE_rel hs parts.toList qs _ (madeCells z.cells (n * sz)).toList (isOldParts G st.t (trPartsE parts.toList)) hq (by simp) (rowIs_zero h5 h6 hlen) id
 have hn : n ≤ maxLen := by
  have : n * 1 ≤ n * sz := Nat.mul_le_mul_left _ hpos
  simp only [maxLen]; omega
 refine OpOk.mkrow (e := e) (w' := x.w.alloc (.cells us.toArray e)) hs.inv hs.b0 ha hpos hn hl ?_ (made_alloc _ _ _) hrow
 simp only [execOp, ho, Sem.run_bind]
 have := buildSlice_run (P := P) (w := x.w) (us := us) (parts := parts.toList.map fun p => (p.1, a.eval p.2)) h1 ⟨i, z, h3, h4, h5, h6⟩ h2 hle fun z' hz' => by
  have : z' = z.cells := by apply Array.ext'; rw [hz', h5]
  subst this
  simpa using hu
 have e1 : (parts.map fun x => (x.1, a.eval x.2)) = (parts.toList.map fun p => (p.1, a.eval p.2)).toArray := by apply Array.ext'; simp
 rw [e1, this]
 rfl
theorem litd_ok {o : Oper} {t e : TypeId} {parts : Array (Nat × Operand)} {zs : List Value} {n sz : Nat} (ho : o.op = .buildSlice t n parts) (h1 : P.underlying t = some (.slice e)) (hz : TZero P e zs) (h2 : TSize P e sz) (hlen : zs.length = sz) (hle : n * sz ≤ 2 ^ 24)
  (hs : RelS G x st a) {qs : List (Nat × List C)} (hq : partsE G st.t sz n (trPartsE parts.toList) = some qs) : OpOk P o a G x st.h (.sl (isOldParts G st.t (trPartsE parts.toList)) (fillE (List.replicate n (zs.map cOf)) qs)) st.h := by
 obtain ⟨i, z, h3, h4, h5, h6⟩ := hz
 obtain ⟨us, hu, hrow, hl⟩ := fillE_rel hs parts.toList qs _ (madeCells z.cells (n * sz)).toList (isOldParts G st.t (trPartsE parts.toList)) hq (by simp) (rowIs_zero h5 h6 hlen) id
 refine OpOk.mkdata (e := e) (w' := x.w.alloc (.cells us.toArray e)) hs.inv hs.b0 hl (Nat.le_refl _) ?_ (made_alloc _ _ _) (fun j v hv => by simpa using hv) hrow
 simp only [execOp, ho, Sem.run_bind]
 have := buildSlice_run (P := P) (w := x.w) (us := us) (parts := parts.toList.map fun p => (p.1, a.eval p.2)) h1 ⟨i, z, h3, h4, h5, h6⟩ h2 hle fun z' hz' => by
  have : z' = z.cells := by apply Array.ext'; rw [hz', h5]
  subst this
  simpa using hu
 have e1 : (parts.map fun x => (x.1, a.eval x.2)) = (parts.toList.map fun p => (p.1, a.eval p.2)).toArray := by apply Array.ext'; simp
 rw [e1, this]
 rfl
theorem make_ok {o : Oper} {t e : TypeId} {y z : Operand} {zs : List Value} {s sz bytes : Nat} {h' : Heap} (ho : o.op = .makeSlice t y z) (h1 : P.underlying t = some (.slice e)) (hz : TZero P e zs) (h2 : TSize P e sz) (hby : (P.info? e).map (·.bytes) = some bytes) (hlen : zs.length = sz) (hpos : 0 < sz)
  (hs : RelS G x st a) {n : Int} (hy : rho G st.t (trO y) = .s (.int .i64 n)) (hz' : rho G st.t (trO z) = .s (.int .i64 n)) (h0 : 0 ≤ n) (hb : n * bytes ≤ 140737488355328) (hmax : n ≤ 140737488355328)
  (ha : alloc [(s, .row e sz false false (List.replicate n.toNat (zs.map cOf)))] st.h = some h') : OpOk P o a G x st.h (.row s n.toNat) h' := by
 obtain ⟨i, zv, h3, h4, h5, h6⟩ := hz
 have hr1 := hs.opd y
 have hr2 := hs.opd z
 rw [hy] at hr1
 rw [hz'] at hr2
 obtain ⟨i', hi', hs'⟩ := Option.map_eq_some_iff.1 h2
 rw [h3] at hi'
 injection hi' with hi'
 subst hi'
 obtain ⟨i', hi', hb'⟩ := Option.map_eq_some_iff.1 hby
 rw [h3] at hi'
 injection hi' with hi'
 subst hi'
 have hrun := run_make (P := P) x.w t e i zv h1 h3 h4 .i64 .i64 n n h0 (Int.le_refl _) (by rw [hb', Int.mul_comm]; omega) (by omega)
 rw [hs'] at hrun
 have hn : n.toNat ≤ maxLen := by simp only [maxLen]; omega
 refine OpOk.mkrow (e := e) (arr := (madeCells zv.cells (n.toNat * sz)).toList) hs.inv hs.b0 ha hpos hn (by simp) ?_ (by simpa using made_alloc _ _ _) (rowIs_zero h5 h6 hlen)
 simp only [execOp, ho, Sem.run_bind, hr1.s_inv, hr2.s_inv, hrun]
 rfl
theorem eB_length (l : List UInt8) : (eB l).length = l.length := by simp [eB]
theorem rowIs_bytes {old : Bool} (l : List UInt8) : RowIs x old 1 (eB l) (l.map fun b => Value.int .u8 (b.toNat : Int)) := by
 refine ⟨by simp [eB], fun e he => ?_, fun v hv => ?_, fun i k e c h1 h2 => ?_⟩
 ·obtain ⟨b, _, rfl⟩ := List.mem_map.1 he
  rfl
 ·obtain ⟨b, _, rfl⟩ := List.mem_map.1 hv
  rfl
 ·simp only [eB, List.getElem?_map, Option.map_eq_some_iff] at h1
  obtain ⟨b, hb, rfl⟩ := h1
  cases k with
  | zero =>
   simp at h2
   subst h2
   exact ⟨.int .u8 (b.toNat : Int), by simp [hb], .sc _ rfl⟩
  | succ k => simp at h2
theorem freeze_push (w : World) (arr : Array Value) (e : TypeId) (n : Nat) (hn : arr.size ≤ n) : Made w ((w.alloc (.cells arr e)).freeze ⟨w.heap.size, n, none⟩ 1) arr e (n, n + 1) := by
 refine ⟨?_, rfl, rfl, rfl, fun o h1 h2 => by omega⟩
 simp only [World.freeze]
 rw [if_neg (by simp)]
 have hp : (w.alloc (.cells arr e)).heap = w.heap.push (.cells arr e) := rfl
 apply Array.ext
 ·simp
 ·intro i h4 h5
  simp only [hp, Array.getElem_modify]
  by_cases hi : w.heap.size = i
  ·subst hi
   simp
  ·have h6 : i < w.heap.size := by
    simp at h5
    omega
   rw [if_neg hi, Array.getElem_push_lt h6, Array.getElem_push_lt h6]
theorem stringToBytes_run (w : World) (e : TypeId) (s : ByteArray) : ∃ (full : Array Value) (cap : Nat) (fr : Nat × Nat) (w' : World), (Conv.stringToBytes e s).run P w = .ok (.slice (some ⟨w.heap.size, 0, none⟩) s.size cap) w' ∧ Made w w' full e fr ∧ s.size ≤ cap ∧
  ∀ (j : Nat) (v : Value), (s.data.toList.map fun b => Value.int .u8 (b.toNat : Int))[j]? = some v → full[j]? = some v := by
 have hcap : s.size ≤ (Question.appendCap s.size 0 e).cut (w.tape w.drawn (.appendCap s.size 0 e)) := by simp [Question.cut]
 generalize hq : (Question.appendCap s.size 0 e).cut (w.tape w.drawn (.appendCap s.size 0 e)) = cap at hcap
 generalize hf : ((s.data.map fun b => Value.int .u8 (b.toNat : Int)) ++ Array.replicate (cap - s.size) (.int .u8 0) : Array Value) = full
 have hm := freeze_push w.drew full e full.size (Nat.le_refl _)
 refine ⟨full, cap, (full.size, full.size + 1), _, ?_, ⟨hm.heap, hm.os, hm.tape, hm.output, hm.nf⟩, hcap, fun j v hv => ?_⟩
 ·have h1 : (choose (.appendCap s.size 0 e)).run P w = .ok cap w.drew := by
   rw [run_choose, ← hq]
   rfl
  have hsh : (w.drew.alloc (.cells full e)).shape? w.heap.size = some (e, full.size) := by
   have := heap_alloc_new w.drew (.cells full e)
   simp only [World.size_drew] at this
   unfold World.shape?
   rw [this]
  simp only [Conv.stringToBytes, Sem.run_bind, h1, Result.andThen_ok, hf, newRow, run_newObj, Sem.run_pure, markStringish, run_shape, World.alloc_eq, World.size_drew, hsh, run_freeze]
 ·have hj := (List.getElem?_eq_some_iff.1 hv).1
  simp at hj
  rw [← hf, Array.getElem?_append_left (by simpa using hj)]
  simpa using hv
theorem s2b_ok {o : Oper} {y : Operand} {src dst e : TypeId} (ho : o.op = .convert src dst y) (h1 : P.underlying src = some .string) (h2 : P.underlying dst = some (.slice e)) (h3 : P.underlying e = some (.int .u8)) (hs : RelS G x st a) {s : ByteArray}
  (hq : rho G st.t (trO y) = .s (.string s)) : OpOk P o a G x st.h (.sl false (eB s.data.toList)) st.h := by
 have hr := hs.opd y
 rw [hq] at hr
 obtain ⟨full, cap, fr, w', hrun, hm, hcap, hfull⟩ := stringToBytes_run (P := P) x.w e s
 refine OpOk.mkdata (sz := 1) (e := e) (n := s.size) (cap := cap) (full := full) (fr := fr) (w' := w') (arr := s.data.toList.map fun b => Value.int .u8 (b.toNat : Int)) hs.inv hs.b0 (by rw [eB_length, Array.length_toList]; rfl) hcap ?_ hm hfull (rowIs_bytes _)
 simp only [execOp, ho, Sem.run_bind, convert, run_underlying h1, run_underlying h2, run_underlying h3, Result.andThen_ok, hr.s_inv, hrun]
 rfl
end
end Go.Ev
set_option linter.unusedSimpArgs false
set_option linter.unusedVariables false
namespace Go.Ev
section
variable {P : Program} {G : Cf} {x : Cx} {st : St} {a : Act}
theorem wrote_setRow {w : World} {g : Nat} {cur arr : Array Value} {e : TypeId} (hg : w.heap[g]? = some (.cells cur e (0, 0))) : Wrote w (w.setRow g arr) g arr e :=
 ⟨by simp, setRow_heap w g cur arr e _ hg, fun b hb => setRow_other w g b arr hb, rfl, rfl, rfl⟩
theorem splice_get {α : Type} {l us : List α} {p j : Nat} (h : p + us.length ≤ l.length) : (l.take p ++ us ++ l.drop (p + us.length))[j]? = if j < p then l[j]? else if j < p + us.length then us[j - p]? else l[j]? := by
 by_cases c1 : j < p
 ·rw [if_pos c1, List.append_assoc, List.getElem?_append_left (by simp; omega), List.getElem?_take, if_pos c1]
 ·rw [if_neg c1]
  have e1 : (l.take p).length = p := by simp; omega
  by_cases c2 : j < p + us.length
  ·rw [if_pos c2, List.append_assoc, List.getElem?_append_right (by omega), List.getElem?_append_left (by omega), e1]
  ·rw [if_neg c2]
   have e2 : (l.take p ++ us).length = p + us.length := by rw [List.length_append, e1]
   rw [List.getElem?_append_right (by omega), e2, List.getElem?_drop]
   congr 1
   omega
theorem store_run {o : Oper} {y z : Operand} {t : TypeId} {sz : Nat} {us : List Value} {g off : Nat} {cur : Array Value} {e : TypeId} (ho : o.op = .store t y z) (h2 : TSize P t sz) (hp : a.eval y = .pointer (some ⟨g, off, none⟩)) (hu : (a.eval z).cells = us.toArray) (hul : us.length = sz)
  (h1 : ∀ v ∈ us, v.oneCell' = true) (hg : x.w.heap[g]? = some (.cells cur e (0, 0))) (hfit : off + us.length ≤ cur.size) :
  (execOp a.eval o).run P x.w = .ok .skip (x.w.setRow g (cur.toList.take off ++ us ++ cur.toList.drop (off + us.length)).toArray) := by
 have hst := run_storeCells_at P g off e us 0 cur x.w hg (by simpa using hfit) h1
 simp only [Nat.add_zero] at hst
 simp only [execOp, ho, Instr.storeAt, Sem.run_bind, hp, Instr.sureAddr, Sem.run_pure, Result.andThen_ok, storeVar, sizeOf_run h2]
 rw [if_neg (by simp [hu, hul])]
 simp [hu, hst]
theorem store_ok {o : Oper} {y z : Operand} {t : TypeId} {sz : Nat} {F : FnEv} (ho : o.op = .store t y z) (h2 : TSize P t sz) (hs : RelS G x st a) {v : AV} {h' : Heap} (he : evW G st.t F st.h (.store sz (trO y) (trO z)) = some (v, h')) :
  OpOk P o a G x st.h v h' := by
 have hr := hs.opd y
 simp only [evW] at he
 split at he
 ·rename_i hc
  obtain ⟨us, hu, hcell⟩ := cells_rel (hs.opd z) hc.2
  have hul : us.length = sz := by rw [← hcell.len]; exact hc.1
  split at he
  ·rename_i id off hq
   rw [hq] at hr
   split at he
   ·rename_i cells hg
    split at he
    ·rename_i hle
     injection he with he
     injection he with h3 h4
     subst h3 h4
     obtain ⟨arr, e, hb, hsz, hrel⟩ := hs.inv.obj id _ hg
     cases hr with
     | ptr id off u hv hr =>
      have hp := hr cells hg
      have hlt := getO_lt (by rw [hg]; rfl : (getO st.h id).isSome)
      intro K Q hK
      unfold Oper.wp
      rw [store_run ho h2 hp hu hul hcell.one hb (by omega)]
      have hw : Wrote x.w (x.w.setRow (x.φ id) (arr.toList.take off ++ us ++ arr.toList.drop (off + us.length)).toArray) (x.φ id) (arr.toList.take off ++ us ++ arr.toList.drop (off + us.length)).toArray e := wrote_setRow hb
      generalize hw' : x.w.setRow (x.φ id) (arr.toList.take off ++ us ++ arr.toList.drop (off + us.length)).toArray = w' at hw ⊢
      generalize hcs : cells.take off ++ (rho G st.t (trO z)).cells ++ cells.drop (off + sz) = cs' at hK ⊢
      have hev : Evo x st.h { x with w := w' } (st.h.set id (some (.var cs'))) id := by
       refine ⟨fun c hc' => ⟨⟨cells, hg⟩, rfl⟩, fun e s o f l hc' => ?_, fun d hc' => ?_⟩ <;>
       ·rw [getO_set hlt, if_pos rfl] at hc'
        simp at hc'
      have hst := Step.write hs.inv hw hg trivial hev
      have hsub : ∀ (i : Nat) (b : AV), cs'[i]? = some b → (∃ j : Nat, cells[j]? = some b) ∨ (∃ j : Nat, (rho G st.t (trO z)).cells[j]? = some b) := fun i b hb' => by
       rw [← hcs] at hb'
       have := List.mem_of_getElem? hb'
       simp only [List.mem_append] at this
       rcases this with (h5 | h5) | h5
       ·exact .inl (List.getElem?_of_mem (List.mem_of_mem_take h5))
       ·exact .inr (List.getElem?_of_mem h5)
       ·exact .inl (List.getElem?_of_mem (List.mem_of_mem_drop h5))
      have hlive : ∀ (i : Nat) (b : AV), cs'[i]? = some b → ∀ j ∈ b.refs, (getO st.h j).isSome := fun i b hb' j hj => by
       rcases hsub i b hb' with ⟨k, hk⟩ | ⟨k, hk⟩
       ·exact hs.inv.live id _ hg j (mem_refsL hk hj)
       ·exact hs.opdRefs z j (cells_refs (mem_refsL hk hj))
      refine hK _ undef (hs.inv.write hw hg trivial hev ?_ fun j hj => ?_) hst (.s _) (by simp [AV.refs])
      ·refine ⟨_, e, hw.new, ?_, fun i b hb' => ?_⟩
       ·rw [← hcs]
        simp [hcell.len]
        omega
       ·have hi : i < cs'.length := (List.getElem?_eq_some_iff.1 hb').1
        have hb2 := hb'
        rw [← hcs] at hb'
        have hcl := hcell.len
        rw [show off + sz = off + (rho G st.t (trO z)).cells.length by omega, splice_get (by omega)] at hb'
        rw [List.getElem?_toArray, splice_get (by simp; omega)]
        by_cases c1 : i < off
        ·rw [if_pos c1] at hb' ⊢
         obtain ⟨v, h5, h6, h7⟩ := hrel i b hb'
         exact ⟨v, by simpa using h5, h6, h7.step hst fun j hj => ⟨trivial, hlive i b hb2 j hj⟩⟩
        ·rw [if_neg c1] at hb' ⊢
         by_cases c2 : i < off + us.length
         ·rw [if_pos (by omega)] at hb'
          rw [if_pos c2]
          have hi' : i - off < us.length := by omega
          exact ⟨us[i - off], List.getElem?_eq_getElem hi', hcell.one _ (List.getElem_mem hi'), (hcell.rel _ b _ hb' (List.getElem?_eq_getElem hi')).step hst fun j hj => ⟨trivial, hlive i b hb2 j hj⟩⟩
         ·rw [if_neg (by omega)] at hb'
          rw [if_neg c2]
          obtain ⟨v, h5, h6, h7⟩ := hrel i b hb'
          exact ⟨v, by simpa using h5, h6, h7.step hst fun j hj => ⟨trivial, hlive i b hb2 j hj⟩⟩
      ·obtain ⟨i, b, h5, h6⟩ := mem_refsL_iff.1 hj
       exact (hst.evo j trivial (hlive i b h5 j h6)).2
    ·simp at he
   ·simp at he
  ·rename_i id n i k hq
   rw [hq] at hr
   split at he
   ·rename_i e s old l hrow
    obtain ⟨hg, hlen⟩ := rowAt_inv hrow
    split at he
    ·rename_i el cs hel hcs
     split at he
     ·rename_i hle
      injection he with he
      injection he with h3 h4
      subst h3 h4
      obtain ⟨arr, hb, hsz, hcap, hmax, hpos, h6, h7, h8, _, h10⟩ := hs.inv.obj id _ hg
      have hlt := getO_lt (by rw [hg]; rfl : (getO st.h id).isSome)
      have hi : i < l.length := (List.getElem?_eq_some_iff.1 hel).1
      have hels := h6 el (List.mem_of_getElem? hel)
      have hm : (i + 1) * s ≤ arr.size := by rw [hsz]; exact Nat.mul_le_mul_right _ (by omega)
      rw [Nat.add_mul, Nat.one_mul] at hm
      obtain ⟨hcl, hcr⟩ := toCs_rel hcell.len hcell.rel hcs
      have holdz : isOldL (rho G st.t (trO z)).cells = true → (rho G st.t (trO z)).isOld = true := by
       generalize rho G st.t (trO z) = q
       cases q <;> simp [AV.cells, isOldL, AV.isOld]
      cases hr with
      | eptr id n i k u hv _ hr =>
       have hp := hr _ _ _ _ _ hg hlen
       intro K Q hK
       unfold Oper.wp
       rw [store_run ho h2 hp hu hul hcell.one hb (by omega)]
       have hw : Wrote x.w (x.w.setRow (x.φ id) (arr.toList.take (i * s + k) ++ us ++ arr.toList.drop (i * s + k + us.length)).toArray) (x.φ id) (arr.toList.take (i * s + k) ++ us ++ arr.toList.drop (i * s + k + us.length)).toArray e := wrote_setRow hb
       generalize x.w.setRow (x.φ id) (arr.toList.take (i * s + k) ++ us ++ arr.toList.drop (i * s + k + us.length)).toArray = w' at hw ⊢
       generalize hl' : l.set i (el.take k ++ cs ++ el.drop (k + sz)) = l' at hK ⊢
       have hlen' : l'.length = l.length := by rw [← hl']; simp
       have hev : Evo x st.h { x with w := w' } (st.h.set id (some (.row e s (old || (rho G st.t (trO z)).isOld) false l'))) id := by
        refine ⟨fun c hc' => ?_, fun e' s' o' f' l'' hc' => ?_, fun d hc' => by rw [getO_set hlt, if_pos rfl] at hc'; simp at hc'⟩
        ·rw [getO_set hlt, if_pos rfl] at hc'
         simp at hc'
        ·rw [getO_set hlt, if_pos rfl] at hc'
         injection hc' with hc'
         injection hc' with e1 e2 e3 e4 e5
         subst e1 e2 e5
         exact ⟨old, false, l, hg, by omega, fun _ => ⟨rfl, rfl⟩⟩
       have hst := Step.write hs.inv hw hg rfl hev
       refine hK _ undef (hs.inv.write hw hg rfl hev ?_ (by simp [Obj.refs])) hst (.s _) (by simp [AV.refs])
       refine ⟨_, hw.new, ?_, ?_, hmax, hpos, fun f hf => ?_, fun v hv => ?_, fun i' k' f c h11 h12 => ?_, fun h => by simp at h, fun h => ?_⟩
       ·simp only [List.size_toArray, List.length_append, List.length_take, List.length_drop, Array.length_toList]
        omega
       ·rw [hlen']; exact hcap
       ·rw [← hl'] at hf
        rcases List.mem_or_eq_of_mem_set hf with hf | hf
        ·exact h6 f hf
        ·rw [hf]
         simp only [List.length_append, List.length_take, List.length_drop]
         omega
       ·simp only [List.mem_toArray, List.mem_append] at hv
        rcases hv with (hv | hv) | hv
        ·exact h7 v (by simpa using List.mem_of_mem_take hv)
        ·exact hcell.one v hv
        ·exact h7 v (by simpa using List.mem_of_mem_drop hv)
       ·rw [List.getElem?_toArray, splice_get (by simp; omega)]
        have old_case : ∀ (f' : List C), l[i']? = some f' → f'[k']? = some c → ∃ v, arr.toList[i' * s + k']? = some v ∧ Rep w' (Cx.sh { x with w := w' } (old || (rho G st.t (trO z)).isOld)) c v := fun f' hf' hc' => by
         obtain ⟨v, h13, h14⟩ := h8 i' k' f' c hf' hc'
         exact ⟨v, by simpa using h13, (h14.mono (hst.ext.sh old)).mono fun b o hS => ⟨sh_le hS fun h => by simp [h], rfl⟩⟩
        by_cases hii : i = i'
        ·subst hii
         rw [← hl', List.getElem?_set_self hi] at h11
         injection h11 with h11
         subst h11
         rw [show k + sz = k + cs.length by omega, splice_get (by omega)] at h12
         by_cases c1 : k' < k
         ·rw [if_pos c1] at h12
          rw [if_pos (by omega)]
          exact old_case el hel h12
         ·rw [if_neg c1] at h12
          rw [if_neg (by omega)]
          by_cases c2 : k' < k + cs.length
          ·rw [if_pos c2] at h12
           rw [if_pos (by omega)]
           obtain ⟨v, h13, h14⟩ := hcr _ c h12
           refine ⟨v, ?_, (h14.mono (hst.ext.sh _)).mono fun b o hS => ⟨sh_le hS fun h => by simp [holdz h], rfl⟩⟩
           rw [show i * s + k' - (i * s + k) = k' - k by omega]
           exact h13
          ·rw [if_neg c2] at h12
           rw [if_neg (by omega)]
           exact old_case el hel h12
        ·rw [← hl', List.getElem?_set_ne hii] at h11
         have hk' : k' < s := by
          have := (List.getElem?_eq_some_iff.1 h12).1
          rw [h6 f (List.mem_of_getElem? h11)] at this
          exact this
         obtain ⟨v, h13, h14⟩ := old_case f h11 h12
         refine ⟨v, ?_, h14⟩
         rcases Nat.lt_or_gt_of_ne hii with hlt' | hgt'
         ·have hm2 : (i + 1) * s ≤ i' * s := Nat.mul_le_mul_right _ hlt'
          rw [Nat.add_mul, Nat.one_mul] at hm2
          rw [if_neg (by omega), if_neg (by omega)]
          exact h13
         ·have hm2 : (i' + 1) * s ≤ i * s := Nat.mul_le_mul_right _ hgt'
          rw [Nat.add_mul, Nat.one_mul] at hm2
          rw [if_pos (by omega)]
          exact h13
       ·simp only [Bool.or_eq_false_iff] at h
        exact h10 h.1
     ·simp at he
    ·simp at he
   ·simp at he
  ·simp at he
 ·simp at he
end
end Go.Ev
set_option linter.unusedSimpArgs false
set_option linter.unusedVariables false
namespace Go.Ev
section
variable {P : Program} {G : Cf} {x : Cx} {st : St} {a : Act}
structure Src (P : Program) (w : World) (sz : Nat) (u : Value) (m : Nat) (news : List Value) : Prop where
 len : ∀ w' : World, (Builtin.lenOf u).run P w' = .ok m w'
 first : ∀ w' : World, w'.heap = w.heap → (Builtin.firstCells sz m u).run P w' = .ok news.toArray w'
structure TElem (P : Program) (e : TypeId) (sz bytes : Nat) (zs : List Value) : Prop where
 zero : TZero P e zs
 size : TSize P e sz
 bytes : (P.info? e).map (·.bytes) = some bytes
 len : zs.length = sz
 pos : 0 < sz
theorem TElem.info {e : TypeId} {sz bytes : Nat} {zs : List Value} (h : TElem P e sz bytes zs) : ∃ i z, P.info? e = some i ∧ i.zero = some z ∧ z.cells.toList = zs ∧ i.size = sz ∧ i.bytes = bytes := by
 obtain ⟨i, z, h1, h2, h3, _⟩ := h.zero
 obtain ⟨i', h4, h5⟩ := Option.map_eq_some_iff.1 h.size
 rw [h1] at h4
 injection h4 with h4
 subst h4
 obtain ⟨i', h4, h6⟩ := Option.map_eq_some_iff.1 h.bytes
 rw [h1] at h4
 injection h4 with h4
 subst h4
 exact ⟨i, z, h1, h2, h3, h5, h6⟩
theorem append_room {t t2 ty e : TypeId} {sz bytes : Nat} {zs : List Value} (h1 : P.underlying t = some (.slice e)) (h2 : ∃ d, P.underlying t2 = some d ∧ ∀ k, d ≠ .int k) (he : TElem P e sz bytes zs) {w : World} {u : Value} {m : Nat} {news : List Value} (hsrc : Src P w sz u m news)
  {g n cap : Nat} {cur : Array Value} {e' : TypeId} (hg : w.heap[g]? = some (.cells cur e' (0, 0))) (hroom : n + m ≤ cap) (hfit : n * sz + news.length ≤ cur.size) (hone : ∀ v ∈ news, v.oneCell' = true) :
  (Builtin.append_ #[t, t2] ty #[.slice (some ⟨g, 0, none⟩) n cap, u]).run P w = .ok (.slice (some ⟨g, 0, none⟩) (n + m) cap) (w.setRow g (cur.toList.take (n * sz) ++ news ++ cur.toList.drop (n * sz + news.length)).toArray) := by
 obtain ⟨i, z, h3, h4, h5, h6, h7⟩ := he.info
 obtain ⟨d, hd, hnd⟩ := h2
 have hst := run_storeCells_at P g (n * sz) e' news 0 cur w hg (by simpa using hfit) hone
 simp only [Nat.add_zero] at hst
 have hsz : (sizeOf e).run P w = .ok sz w := sizeOf_run he.size
 have hf := hsrc.first w rfl
 have hl := hsrc.len w
 cases d <;> first
  | exact absurd rfl (hnd _)
  | simp only [Builtin.append_, List.getElem?_toArray, List.getElem?_cons_zero, List.getElem?_cons_succ, Sem.run_bind, run_underlying h1, Result.andThen_ok, hsz, run_underlying hd, Sem.run_pure, Bool.false_eq_true, if_false, hl, if_pos hroom, Bool.not_false, if_true, hf, Addr.add_lit, Nat.zero_add, hst]
theorem append_grow {t t2 ty e : TypeId} {sz bytes : Nat} {zs : List Value} (h1 : P.underlying t = some (.slice e)) (h2 : ∃ d, P.underlying t2 = some d ∧ ∀ k, d ≠ .int k) (he : TElem P e sz bytes zs) {w : World} {u : Value} {m : Nat} {news : List Value} (hsrc : Src P w sz u m news)
    {base : Option Addr} {n cap : Nat} {olds : List Value} (hold : ∀ w' : World, w'.heap = w.heap → (Builtin.firstCells sz n (.slice base n cap)).run P w' = .ok olds.toArray w') (hroom : cap < n + m) (hbytes : (n + m) * bytes ≤ 140737488355328) (hmax : n + m ≤ 140737488355328) :
    ∃ newCap, n + m ≤ newCap ∧ newCap ≤ maxLen ∧ ∃ zc : List Value, (∀ v ∈ zc, v.oneCell' = true) ∧ zc.length = (newCap - (n + m)) * sz ∧
    (Builtin.append_ #[t, t2] ty #[.slice base n cap, u]).run P w = .ok (.slice (some ⟨w.heap.size, 0, none⟩) (n + m) newCap) (w.drew.alloc (.cells (olds ++ news ++ zc).toArray e)) := by
  obtain ⟨i, z, h3, h4, h5, h6, h7⟩ := he.info
  obtain ⟨_, _, h8, h9, h10, hzo⟩ := he.zero
  rw [h3] at h8
  injection h8 with h8
  subst h8
  rw [h4] at h9
  injection h9 with h9
  subst h9
  obtain ⟨d, hd, hnd⟩ := h2
  have hmaxLen : n + m ≤ maxLen := by simp only [maxLen]; omega
  refine ⟨grownCap w (n + m) cap e, grownCap_ge w _ _ _, grownCap_le_maxLen w _ _ _ hmaxLen, (Builtin.zeroCells z.cells (grownCap w (n + m) cap e - (n + m))).toList, fun v hv => ?_, ?_, ?_⟩
  · simp only [Builtin.zeroCells, Array.toList_map, List.mem_map] at hv
    obtain ⟨j, hj, rfl⟩ := hv
    have hj' : j < (grownCap w (n + m) cap e - (n + m)) * z.cells.size := by simpa using hj
    have hzs : z.cells.size = sz := by rw [← he.len, ← h5]; simp
    have hlt : j % z.cells.size < z.cells.size := Nat.mod_lt _ (by rw [hzs]; exact he.pos)
    have hin : z.cells[j % z.cells.size]! ∈ zs := by
      rw [← h5]
      simp [hlt]
    exact List.all_eq_true.1 hzo _ hin
  · have hzs : z.cells.size = sz := by rw [← he.len, ← h5]; simp
    simp [size_zeroCells, hzs]
  · have hsz : (sizeOf e).run P w = .ok sz w := sizeOf_run he.size
    have hf := hsrc.first w.drew rfl
    have hl := hsrc.len w
    have ho := hold w.drew rfl
    have hti : (typeInfo e).run P w = .ok i w := by simp [typeInfo, h3]
    have h63 : ¬ ((n + m : Nat) : Int) > IntKind.i64.max := by
      have : IntKind.i64.max = 9223372036854775807 := by decide
      rw [this]; omega
    have h48 : ¬ (Builtin.nextslicecap (n + m) cap * i.bytes > 2 ^ 48) := by
      rw [h7]
      have := growslice_fits (bytes := bytes) hroom hbytes
      omega
    have hch : (choose (.appendCap (n + m) cap e)).run P w = .ok (grownCap w (n + m) cap e) w.drew := by
      rw [run_choose]
      rfl
    have hzv : (zeroValue e).run P w.drew = .ok z w.drew := by simp [zeroValue, typeInfo, h3, h4]
    have hti2 : (typeInfo e).run P w.drew = .ok i w.drew := by simp [typeInfo, h3]
    have hand : ¬ ((((n + m : Nat) : Int) > IntKind.i64.max) ∧ ((false = true) ∨ i.bytes = 0)) := fun h => h63 h.1
    cases d <;> first
      | exact absurd rfl (hnd _)
      | (simp only [Builtin.append_, List.getElem?_toArray, List.getElem?_cons_zero, List.getElem?_cons_succ, Sem.run_bind, run_underlying h1, Result.andThen_ok, hsz, run_underlying hd, Sem.run_pure, Bool.false_eq_true, if_false, hl, if_neg (Nat.not_le.2 hroom), hti, if_neg h48, hch, hti2, run_askRoom, ho, Bool.not_false, if_true, hf, hzv, newRow, run_newObj, World.alloc_eq, World.size_drew, Sem.run_ite]
         simp only [Bool.false_eq_true] at hand
         rw [if_neg hand]
         congr 2
         simp)
theorem elems_src {h : Heap} (hi : Inv G x h) {v : AV} {u : Value} (hr : RelV x h v u) {old : Bool} {l : List (List C)} {sz : Nat} (he : elems h v = some (old, l)) (hsz : szOk sz l = true) :
  ∃ news, Src P x.w sz u l.length news ∧ RowIs x old sz l news := by
 obtain ⟨base, cap, rfl, hel⟩ := elems_rel hi hr he
 by_cases hne : l = []
 ·subst hne
  refine ⟨[], ⟨fun _ => rfl, fun w' _ => ?_⟩, ⟨by simp, by simp, by simp, by simp⟩⟩
  cases base <;> simp [Builtin.firstCells, loadCells, loadCellsFrom]
 ·obtain ⟨sz', b, o, vals, rfl, hs', hc, hrr⟩ := hel.at_ hne
  have hszeq : sz' = sz := by
   obtain ⟨e, r, rfl⟩ := List.exists_cons_of_ne_nil hne
   rw [← hs' e (by simp), szOk_iff.1 hsz e (by simp)]
  subst hszeq
  refine ⟨(List.range (l.length * sz')).map vals, ⟨fun _ => rfl, fun w' hw' => ?_⟩, ⟨by simp, hs', fun v hv => ?_, fun i k e c h1 h2 => ?_⟩⟩
  ·refine run_firstCells_some w' sz' l.length ⟨b, o, none⟩ l.length cap _ (by simp) fun j v hv => ?_
   simp only [List.getElem?_map, Option.map_eq_some_iff] at hv
   obtain ⟨q, hq, rfl⟩ := hv
   simp only [List.getElem?_eq_some_iff, List.length_range, List.getElem_range] at hq
   obtain ⟨hj, rfl⟩ := hq
   rw [Addr.add_lit]
   have := hc j hj
   simpa [World.cell?, hw'] using this
  ·obtain ⟨j, hj, rfl⟩ := List.mem_map.1 hv
   have hj' : j < l.length * sz' := by simpa using hj
   have hpos : 0 < sz' := by
    rcases Nat.eq_zero_or_pos sz' with h0 | h0
    ·rw [h0] at hj'; simp at hj'
    ·exact h0
   have hi' : j / sz' < l.length := Nat.div_lt_of_lt_mul (by rw [Nat.mul_comm]; exact hj')
   have hk : j % sz' < (l[j / sz']).length := by rw [hs' _ (List.getElem_mem hi')]; exact Nat.mod_lt _ hpos
   have := hrr (j / sz') (j % sz') _ _ (List.getElem?_eq_getElem hi') (List.getElem?_eq_getElem hk)
   rw [Nat.mul_comm, Nat.div_add_mod] at this
   exact this.one
  ·have hi' : i < l.length := (List.getElem?_eq_some_iff.1 h1).1
   have hk : k < sz' := by rw [← hs' e (List.mem_of_getElem? h1)]; exact (List.getElem?_eq_some_iff.1 h2).1
   have hm : (i + 1) * sz' ≤ l.length * sz' := Nat.mul_le_mul_right _ hi'
   rw [Nat.add_mul, Nat.one_mul] at hm
   exact ⟨vals (i * sz' + k), by simp [show i * sz' + k < l.length * sz' by omega], hrr i k e c h1 h2⟩
theorem string_src {w : World} {s : ByteArray} : Src P w 1 (.string s) (eB s.data.toList).length (s.data.toList.map fun b => Value.int .u8 (b.toNat : Int)) := by
 have hlen : (eB s.data.toList).length = s.size := by rw [eB_length, Array.length_toList]; rfl
 refine ⟨fun _ => by rw [hlen]; rfl, fun w' _ => ?_⟩
 rw [hlen]
 simp only [Builtin.firstCells, Sem.run_pure]
 congr 1
 have : s.extract 0 s.size = s := by simp
 rw [this]
 apply Array.ext'
 simp
theorem rowIs_append {old1 old2 : Bool} {sz : Nat} {l m : List (List C)} {arr news : List Value} (h1 : RowIs x old1 sz l arr) (h2 : RowIs x old2 sz m news) : RowIs x (old1 || old2) sz (l ++ m) (arr ++ news) := by
 refine ⟨by simp [h1.size, h2.size, Nat.add_mul], fun e he => ?_, fun v hv => ?_, fun i k e c h3 h4 => ?_⟩
 ·rcases List.mem_append.1 he with he | he
  ·exact h1.els e he
  ·exact h2.els e he
 ·rcases List.mem_append.1 hv with hv | hv
  ·exact h1.one v hv
  ·exact h2.one v hv
 ·by_cases c1 : i < l.length
  ·rw [List.getElem?_append_left c1] at h3
   obtain ⟨v, h5, h6⟩ := h1.rep i k e c h3 h4
   exact ⟨v, by rw [List.getElem?_append_left (List.getElem?_eq_some_iff.1 h5).1]; exact h5, h6.le fun h => by simp [h]⟩
  ·rw [List.getElem?_append_right (by omega)] at h3
   obtain ⟨v, h5, h6⟩ := h2.rep _ k e c h3 h4
   refine ⟨v, ?_, h6.le fun h => by simp [h]⟩
   have hm : l.length * sz ≤ i * sz := Nat.mul_le_mul_right _ (by omega)
   rw [List.getElem?_append_right (by rw [h1.size]; omega), h1.size]
   rw [show i * sz + k - l.length * sz = (i - l.length) * sz + k by rw [Nat.sub_mul]; omega]
   exact h5
theorem obj_row {h : Heap} (hi : Inv G x h) {id e s : Nat} {o f : Bool} {l : List (List C)} (hg : getO h id = some (.row e s o f l)) :
  ∃ arr : Array Value, x.w.heap[x.φ id]? = some (.cells arr e (0, 0)) ∧ arr.size = x.κ id * s ∧ l.length ≤ x.κ id ∧ x.κ id ≤ maxLen ∧ 0 < s ∧ (∀ v ∈ arr, v.oneCell' = true) ∧ RowIs x o s l (arr.toList.take (l.length * s)) ∧ (o = false → x.B0 ≤ x.φ id) := by
 obtain ⟨arr, h1, h2, h3, h4, h5, h6, h7, h8, _, h10⟩ := hi.obj id _ hg
 have hle : l.length * s ≤ arr.size := by rw [h2]; exact Nat.mul_le_mul_right _ h3
 refine ⟨arr, h1, h2, h3, h4, h5, h7, ⟨by simp; omega, h6, fun v hv => h7 v (by simpa using List.mem_of_mem_take hv), fun i k el c h11 h12 => ?_⟩, h10⟩
 obtain ⟨v, h13, h14⟩ := h8 i k el c h11 h12
 refine ⟨v, ?_, h14⟩
 have hi' : i < l.length := (List.getElem?_eq_some_iff.1 h11).1
 have hk : k < s := by rw [← h6 el (List.mem_of_getElem? h11)]; exact (List.getElem?_eq_some_iff.1 h12).1
 have hm : (i + 1) * s ≤ l.length * s := Nat.mul_le_mul_right _ hi'
 rw [Nat.add_mul, Nat.one_mul] at hm
 rw [List.getElem?_take, if_pos (by omega)]
 simpa using h13
theorem objRel_row {x' : Cx} {h' : Heap} {id e s : Nat} {old : Bool} {l : List (List C)} {arr : List Value} (h1 : x'.w.heap[x'.φ id]? = some (.cells arr.toArray e (0, 0))) (h2 : arr.length = x'.κ id * s) (h3 : l.length ≤ x'.κ id) (h4 : x'.κ id ≤ maxLen) (h5 : 0 < s) (h6 : ∀ v ∈ arr, v.oneCell' = true)
  {front : List Value} (h7 : RowIs x' old s l front) (h8 : ∀ (j : Nat) (v : Value), front[j]? = some v → arr[j]? = some v) (h9 : old = false → x'.B0 ≤ x'.φ id) : ObjRel x' h' id (.row e s old false l) :=
 ⟨arr.toArray, h1, by simpa using h2, h3, h4, h5, h7.els, fun v hv => h6 v (by simpa using hv), fun i k el c h10 h11 => by
  obtain ⟨v, h12, h13⟩ := h7.rep i k el c h10 h11
  exact ⟨v, by simpa using h8 _ v h12, h13⟩, fun h => by simp at h, h9⟩
theorem RowIs.ext {x' : Cx} {old : Bool} {sz : Nat} {l : List (List C)} {arr : List Value} (h : RowIs x old sz l arr) (he : Ext x x') : RowIs x' old sz l arr :=
 ⟨h.size, h.els, h.one, fun i k e c h1 h2 => let ⟨v, h3, h4⟩ := h.rep i k e c h1 h2; ⟨v, h3, h4.mono (he.sh old)⟩⟩
theorem OpOk.regrow {o : Oper} {h : Heap} {id e s n cap : Nat} {old old' : Bool} {l l' : List (List C)} {arr front : List Value} {w' : World} (hi : Inv G x h) (hB : x.B0 ≤ x.w.heap.size) (hg : getO h id = some (.row e s old false l)) (hle : l.length < l'.length) (hn : l'.length = n)
  (hr : (execOp a.eval o).run P x.w = .ok (.value (.slice (some ⟨x.w.heap.size, 0, none⟩) n cap)) w') (hm : Made x.w w' arr.toArray e (0, 0)) (h2 : arr.length = cap * s) (h3 : n ≤ cap) (h4 : cap ≤ maxLen) (h5 : 0 < s) (h6 : ∀ v ∈ arr, v.oneCell' = true)
  (h7 : RowIs x old' s l' front) (h8 : ∀ (j : Nat) (v : Value), front[j]? = some v → arr[j]? = some v) :
  OpOk P o a G x h (.row id n) (h.set id (some (.row e s old' false l'))) := fun K Q hK => by
 have hlt := getO_lt (by rw [hg]; rfl : (getO h id).isSome)
 have hst : Step (fun _ => True) x h (x.make w' id cap) (h.set id (some (.row e s old' false l'))) := {
  ext := ⟨rfl, rfl, fun b o hS => ⟨hS, hm.cell (hi.sh b o hS)⟩⟩
  size := by simp [Cx.make, hm.size]
  evo := fun i _ hs => by
   by_cases hne : i = id
   ·subst hne
    refine ⟨⟨fun cs hc => ?_, fun e' s' o' f' l'' hc => ?_, fun d hc => by rw [getO_set hlt, if_pos rfl] at hc; simp at hc⟩, by rw [getO_set hlt, if_pos rfl]; rfl⟩
    ·rw [getO_set hlt, if_pos rfl] at hc; simp at hc
    ·rw [getO_set hlt, if_pos rfl] at hc
     injection hc with hc
     injection hc with e1 e2 e3 e4 e5
     subst e1 e2 e5
     exact ⟨old, false, l, hg, by omega, fun h => by omega⟩
   ·exact ⟨.same (by rw [getO_set hlt, if_neg hne]) (upd_other _ hne) (upd_other _ hne), by rw [getO_set hlt, if_neg hne]; exact hs⟩
  frame := fun b hb _ _ => hm.old hb
  sgrow := fun b o hS => .inl hS
  bfresh := bfresh_set hlt rfl (by intro d h; cases h)
  fresh := fun i ob hg' hmut => by
   by_cases hne : i = id
   ·right; simp [Cx.make, hne]
   ·left
    rw [getO_set hlt, if_neg hne] at hg'
    exact ⟨i, ob, hg', hmut, upd_other _ hne⟩
  frow := fun i ob hg' hrow => by
   by_cases hne : i = id
   ·right; simp [Cx.make, hne]
   ·left
    rw [getO_set hlt, if_neg hne] at hg'
    exact ⟨i, ob, hg', hrow, fun h => h, upd_other _ hne⟩
  os := hm.os
  tape := hm.tape
  output := hm.output
  nf := hm.nfw }
 have hinv : Inv G (x.make w' id cap) (h.set id (some (.row e s old' false l'))) := by
  refine hi.update id hst rfl (fun i d hgd c hc => hm.old (hi.big i d hgd c hc).1) (fun _ _ _ _ _ _ h => h) (fun o' hg' => by
   rw [getO_set hlt, if_pos rfl] at hg'
   injection hg' with hg'
   subst hg'
   refine ⟨(by intro d h; cases h), fun _ i d hgd hO => ?_⟩
   have := (hi.big i d hgd _ hO).1
   simp [Cx.make] at this) (fun i hne => by rw [getO_set hlt, if_neg hne]) (fun i hne => upd_other _ hne) (fun i hne => upd_other _ hne)
   (fun i ob _ hg' hd => hm.old (block_lt hi hg' hd)) (fun i ob _ hg' hmut => hi.own i ob hg' hmut) (fun b o hS => ?_) (fun ob hg' => ?_)
  ·have := hi.sh b o hS
   simp only [Cx.make, hm.size]; omega
  ·rw [getO_set hlt, if_pos rfl] at hg'
   injection hg' with hg'
   subst hg'
   refine ⟨objRel_row (arr := arr) (front := front) ?_ (by simpa [Cx.make] using h2) (by simp [Cx.make]; omega) (by simpa [Cx.make] using h4) h5 h6 (h7.ext hst.ext) h8 fun _ => by simpa [Cx.make] using hB, by simp [Obj.refs], fun _ j hS => ?_, fun _ i ob hne hgi hd => ?_⟩
   ·simpa [Cx.make] using hm.new
   ·have := hi.sh _ _ hS
    simp [Cx.make] at this
   ·have := block_lt hi hgi hd
    simp only [Cx.make, upd_same]
    omega
 unfold Oper.wp
 rw [hr]
 refine hK (x.make w' id cap) _ hinv hst (.row id n _ trivial (fun e' s' o' f' l'' hc => ?_) fun e' s' o' f' l'' hc _ => by simp [Cx.make]) fun i hid => ?_
 ·rw [getO_set hlt, if_pos rfl] at hc
  injection hc with hc
  injection hc with _ _ _ _ e5
  subst e5
  omega
 ·simp only [AV.refs, List.mem_singleton] at hid
  subst hid
  rw [getO_set hlt, if_pos rfl]
  rfl
theorem RowIs.yO {p : Bool} {sz : Nat} {l : List (List C)} {arr : List Value} (h : RowIs x p sz l arr) (bytes : Nat) : RowIs x (yO bytes p l) sz l arr := by
 unfold Ev.yO
 split
 ·cases hs : l.all fun e => e.all C.isSc with
  | false => simpa using h
  | true =>
   refine ⟨h.size, h.els, h.one, fun i k e c h1 h2 => ?_⟩
   obtain ⟨v, h3, h4⟩ := h.rep i k e c h1 h2
   have h5 := List.all_eq_true.1 (List.all_eq_true.1 hs e (List.mem_of_getElem? h1)) c (List.mem_of_getElem? h2)
   cases h4 with
   | sc v hv => exact ⟨v, h3, .sc v hv⟩
   | nil _ _ _ => simp [C.isSc] at h5
   | sl _ _ _ _ _ _ _ _ _ _ _ => simp [C.isSc] at h5
 ·exact h
theorem app_ok {o : Oper} {y z : Operand} {t t2 e : TypeId} {s sz bytes : Nat} {zs : List Value} {F : FnEv} (ho : o.op = .call { callee := .builtin .append, args := #[y, z], argTypes := #[t, t2] }) (h1 : P.underlying t = some (.slice e)) (h2 : ∃ d, P.underlying t2 = some d ∧ ∀ k, d ≠ .int k)
  (he : TElem P e sz bytes zs) (hs : RelS G x st a) {v : AV} {h' : Heap} (hev : evW G st.t F st.h (.app s e sz bytes (trO y) (trO z)) = some (v, h')) : OpOk P o a G x st.h v h' := by
 have hr := hs.opd y
 have hrz := hs.opd z
 have hrun : ∀ r w', (Builtin.append_ #[t, t2] o.type #[a.eval y, a.eval z]).run P x.w = .ok r w' → (execOp a.eval o).run P x.w = .ok (.value r) w' := fun r w' h => by
  simp [execOp, ho, resolve, invoke, builtin, h]
 simp only [evW] at hev
 split at hev
 ·rename_i ol0 m hm
  split at hev
  ·rename_i hsz
   have hsrc : ∃ news, Src P x.w sz (a.eval z) m.length news ∧ RowIs x ol0 sz m news := by
    revert hm hrz
    generalize rho G st.t (trO z) = q
    generalize a.eval z = u
    intro hrz hm
    split at hm
    ·rename_i str
     injection hm with hm
     injection hm with e1 e2
     subst e1 e2
     rw [hrz.s_inv]
     have hsz1 : sz = 1 ∨ eB str.data.toList = [] := by
      by_cases hnil : eB str.data.toList = []
      ·exact .inr hnil
      ·obtain ⟨q, r, hq⟩ := List.exists_cons_of_ne_nil hnil
       have hmem : q ∈ eB str.data.toList := by rw [hq]; simp
       have := szOk_iff.1 hsz q hmem
       obtain ⟨b, _, rfl⟩ := List.mem_map.1 hmem
       exact .inl this.symm
     rcases hsz1 with h | h
     ·subst h
      exact ⟨_, string_src, rowIs_bytes _⟩
     ·rw [h]
      have h0 : str.data.toList = [] := by simpa [eB] using h
      refine ⟨[], ⟨fun _ => ?_, fun w' _ => ?_⟩, ⟨by simp, by simp, by simp, by simp⟩⟩
      ·have hs0 : str.size = 0 := by have := congrArg List.length h0; simpa using this
       simp [Builtin.lenOf, hs0]
      ·have : (str.extract 0 0).data = #[] := by simp
       simp [Builtin.firstCells]
    ·exact elems_src hs.inv hrz hm hsz
   have hsrc : ∃ news, Src P x.w sz (a.eval z) m.length news ∧ RowIs x (yO bytes ol0 m) sz m news := by
    obtain ⟨news, h3, h4⟩ := hsrc
    exact ⟨news, h3, h4.yO bytes⟩
   generalize yO bytes ol0 m = ol at hev hsrc
   obtain ⟨news, hsrc, hnews⟩ := hsrc
   split at hev
   ·rename_i hq
    rw [hq] at hr
    have hy := hr.nilsl_inv
    split at hev
    ·rename_i hemp
     injection hev with hev
     injection hev with e1 e2
     subst e1 e2
     have hm0 : m = [] := by simpa using hemp
     subst hm0
     have hn0 : news = [] := List.eq_nil_of_length_eq_zero (by simpa using hnews.size)
     subst hn0
     refine OpOk.val hs.inv (hrun (.slice none 0 0) x.w ?_) .nilsl (by simp [AV.refs])
     obtain ⟨d, hd, hnd⟩ := h2
     have hl := hsrc.len x.w
     have hf := hsrc.first x.w rfl
     simp only [List.length_nil] at hl hf
     rw [hy]
     cases d <;> first
      | exact absurd rfl (hnd _)
      | simp only [Builtin.append_, List.getElem?_toArray, List.getElem?_cons_zero, List.getElem?_cons_succ, Sem.run_bind, run_underlying h1, Result.andThen_ok, sizeOf_run he.size, run_underlying hd, Sem.run_pure, Bool.false_eq_true, if_false, hl, Nat.add_zero, Nat.le_refl, if_true, Bool.not_false, hf]
    ·rename_i hemp
     split at hev
     ·rename_i hb
      split at hev
      ·rename_i h1' hal
       injection hev with hev
       injection hev with e1 e2
       subst e1 e2
       have hpos : 0 < m.length := by
        rcases Nat.eq_zero_or_pos m.length with h | h
        ·have := List.eq_nil_of_length_eq_zero h
         subst this
         simp at hemp
        ·exact h
       obtain ⟨newCap, hc1, hc2, zc, hz1, hz2, hrun'⟩ := append_grow (ty := o.type) h1 h2 he hsrc (base := none) (n := 0) (cap := 0) (olds := []) (fun w' _ => run_firstCells_none w' _ _ _ _) (by omega) (by simpa using hb.1) (by simpa using hb.2)
       rw [Nat.zero_add] at hc1 hz2 hrun'
       have hst0 := alloc1 hal
       obtain ⟨hs0, rfl⟩ := hst0
       have hlt : s < st.h.length := (List.getElem?_eq_some_iff.1 hs0).1
       intro K Q hK
       have hm : Made x.w (x.w.drew.alloc (.cells ([] ++ news ++ zc).toArray e)) ([] ++ news ++ zc).toArray e (0, 0) := ⟨rfl, rfl, rfl, rfl, fun o _ h => by omega⟩
       have hst := Step.make (h := st.h) (cap := newCap) (o := .row e sz ol false m) hm hs.inv.sh hs0
       have hinv : Inv G (x.make (x.w.drew.alloc (.cells ([] ++ news ++ zc).toArray e)) s newCap) (st.h.set s (some (.row e sz ol false m))) := by
        refine hs.inv.make hm hs0 (objRel_row (arr := [] ++ news ++ zc) (front := news) ?_ ?_ (by simpa [Cx.make] using hc1) (by simpa [Cx.make] using hc2) he.pos (fun v hv => ?_) (hnews.ext hst.ext) (fun j v hv => ?_) fun _ => by simpa [Cx.make] using hs.b0) (by simp [Obj.refs])
        ·simpa [Cx.make] using hm.new
        ·simp only [List.nil_append, List.length_append, hnews.size, hz2, Cx.make, upd_same, ← Nat.add_mul]
         congr 1
         omega
        ·simp only [List.nil_append, List.mem_append] at hv
         exact hv.elim (hnews.one v) (hz1 v)
        ·rw [List.nil_append, List.getElem?_append_left (List.getElem?_eq_some_iff.1 hv).1]
         exact hv
       unfold Oper.wp
       rw [hrun _ _ (by rw [hy]; exact hrun')]
       refine hK (x.make _ s newCap) _ hinv hst (.row s m.length _ trivial (fun e' s' o' f' l' hg => ?_) fun e' s' o' f' l' hg _ => by simp [Cx.make]) fun id hid => ?_
       ·rw [getO_set hlt, if_pos rfl] at hg
        injection hg with hg
        injection hg with _ _ _ _ h5
        subst h5
        omega
       ·simp only [AV.refs, List.mem_singleton] at hid
        subst hid
        rw [getO_set hlt, if_pos rfl]
        rfl
      ·simp at hev
     ·simp at hev
   ·rename_i id n hq
    rw [hq] at hr
    split at hev
    ·rename_i e0 s0 o' l hrow
     obtain ⟨hg, hlen⟩ := rowAt_inv hrow
     split at hev
     ·rename_i hc
      obtain ⟨rfl, rfl, hb, hmx⟩ := hc
      injection hev with hev
      injection hev with e1 e2
      subst e1 e2
      obtain ⟨arr, hb1, hsize, hcap, hmax, hpos, hone, hfront, hB⟩ := obj_row hs.inv hg
      have hlt := getO_lt (by rw [hg]; rfl : (getO st.h id).isSome)
      cases hr with
      | row id n u hv hle hr =>
       have hy := hr _ _ _ _ _ hg hlen
       subst hlen
       have hle1 : l.length * s0 ≤ arr.size := by rw [hsize]; exact Nat.mul_le_mul_right _ hcap
       by_cases hroom : l.length + m.length ≤ x.κ id
       ·have hfit : l.length * s0 + news.length ≤ arr.size := by rw [hnews.size, hsize, ← Nat.add_mul]; exact Nat.mul_le_mul_right _ hroom
        have hr' := append_room (ty := o.type) h1 h2 he hsrc hb1 hroom hfit hnews.one
        intro K Q hK
        unfold Oper.wp
        rw [hrun _ _ (by rw [hy]; exact hr')]
        have hw : Wrote x.w (x.w.setRow (x.φ id) (arr.toList.take (l.length * s0) ++ news ++ arr.toList.drop (l.length * s0 + news.length)).toArray) (x.φ id) (arr.toList.take (l.length * s0) ++ news ++ arr.toList.drop (l.length * s0 + news.length)).toArray e0 := wrote_setRow hb1
        generalize x.w.setRow (x.φ id) (arr.toList.take (l.length * s0) ++ news ++ arr.toList.drop (l.length * s0 + news.length)).toArray = w' at hw ⊢
        have hevo : Evo x st.h { x with w := w' } (st.h.set id (some (.row e0 s0 (o' || ol) false (l ++ m)))) id := by
         refine ⟨fun c hc' => ?_, fun e' s' o'' f' l'' hc' => ?_, fun d hc' => by rw [getO_set hlt, if_pos rfl] at hc'; simp at hc'⟩
         ·rw [getO_set hlt, if_pos rfl] at hc'
          simp at hc'
         ·rw [getO_set hlt, if_pos rfl] at hc'
          injection hc' with hc'
          injection hc' with e1 e2 e3 e4 e5
          subst e1 e2 e5
          exact ⟨o', false, l, hg, by simp, fun _ => ⟨rfl, rfl⟩⟩
        have hst := Step.write hs.inv hw hg rfl hevo
        refine hK _ _ (hs.inv.write hw hg rfl hevo ?_ (by simp [Obj.refs])) hst (.row id _ _ trivial (fun e' s' o'' f' l'' hc' => ?_) fun e' s' o'' f' l'' _ _ => by simp) fun i hid => ?_
        ·refine objRel_row (front := arr.toList.take (l.length * s0) ++ news) hw.new ?_ (by simpa using hroom) hmax hpos (fun v hv => ?_) ((rowIs_append hfront hnews).ext hst.ext) (fun j v hv => ?_) fun h => hB (by simp only [Bool.or_eq_false_iff] at h; exact h.1)
         ·simp only [List.length_append, List.length_take, List.length_drop, Array.length_toList]
          omega
         ·simp only [List.mem_append] at hv
          rcases hv with (hv | hv) | hv
          ·exact hone v (by simpa using List.mem_of_mem_take hv)
          ·exact hnews.one v hv
          ·exact hone v (by simpa using List.mem_of_mem_drop hv)
         ·rw [List.getElem?_append_left (List.getElem?_eq_some_iff.1 hv).1]
          exact hv
        ·rw [getO_set hlt, if_pos rfl] at hc'
         injection hc' with hc'
         injection hc' with _ _ _ _ e5
         subst e5
         exact Nat.le_refl _
        ·simp only [AV.refs, List.mem_singleton] at hid
         subst hid
         rw [getO_set hlt, if_pos rfl]
         rfl
       ·have hold : ∀ w' : World, w'.heap = x.w.heap → (Builtin.firstCells s0 l.length (.slice (some ⟨x.φ id, 0, none⟩) l.length (x.κ id))).run P w' = .ok (arr.toList.take (l.length * s0)).toArray w' := fun w' hw' => by
         refine run_firstCells_some w' s0 l.length _ _ _ _ (by simp; omega) fun j v hv => ?_
         rw [Addr.add_lit, Nat.zero_add, cell_of_row w' _ _ arr e0 (0, 0) (by rw [hw']; exact hb1)]
         rw [List.getElem?_take] at hv
         split at hv
         ·simpa using hv
         ·simp at hv
        obtain ⟨newCap, hc1, hc2, zc, hz1, hz2, hrun'⟩ := append_grow (ty := o.type) h1 h2 he hsrc hold (by omega) hb hmx
        refine OpOk.regrow (cap := newCap) (w' := x.w.drew.alloc (.cells (arr.toList.take (l.length * s0) ++ news ++ zc).toArray e0)) (arr := arr.toList.take (l.length * s0) ++ news ++ zc) (front := arr.toList.take (l.length * s0) ++ news) hs.inv hs.b0 hg (by simp; omega) rfl (hrun _ _ (by rw [hy, List.length_append]; exact hrun')) ⟨rfl, rfl, rfl, rfl, fun o _ h => by omega⟩ ?_ (by simpa using hc1) hc2 he.pos (fun v hv => ?_) (rowIs_append hfront hnews) fun j v hv => ?_
        ·have h11 : (arr.toList.take (l.length * s0)).length = l.length * s0 := by simp; omega
         rw [List.length_append, List.length_append, h11, hnews.size, hz2, ← Nat.add_mul, ← Nat.add_mul]
         congr 1
         omega
        ·simp only [List.mem_append] at hv
         rcases hv with (hv | hv) | hv
         ·exact hone v (by simpa using List.mem_of_mem_take hv)
         ·exact hnews.one v hv
         ·exact hz1 v hv
        ·rw [List.getElem?_append_left (List.getElem?_eq_some_iff.1 hv).1]
         exact hv
     ·simp at hev
    ·simp at hev
   ·simp at hev
  ·simp at hev
 ·simp at hev
end
end Go.Ev
set_option linter.unusedSimpArgs false
set_option linter.unusedVariables false
namespace Go.Ev
section
variable {P : Program} {G : Cf} {x : Cx} {st : St} {a : Act}
theorem zeroCells_made {z : Array Value} {n sz : Nat} (h : z.size = sz) : Builtin.zeroCells z n = madeCells z (n * sz) := by
 subst h
 rfl
theorem appz_ok {o : Oper} {y z : Operand} {t t2 e : TypeId} {k2 : IntKind} {s sz bytes : Nat} {zs : List Value} {F : FnEv} (ho : o.op = .call { callee := .builtin .append, args := #[y, z], argTypes := #[t, t2] }) (h1 : P.underlying t = some (.slice e)) (h2 : P.underlying t2 = some (.int k2))
  (he : TElem P e sz bytes zs) (hs : RelS G x st a) {v : AV} {h' : Heap} (hev : evW G st.t F st.h (.appz s e sz bytes zs (trO y) (trO z)) = some (v, h')) : OpOk P o a G x st.h v h' := by
 have hr := hs.opd y
 have hrz := hs.opd z
 have hrun : ∀ r w', (Builtin.append_ #[t, t2] o.type #[a.eval y, a.eval z]).run P x.w = .ok r w' → (execOp a.eval o).run P x.w = .ok (.value r) w' := fun r w' h => by
  simp [execOp, ho, resolve, invoke, builtin, h]
 obtain ⟨i, zv, h3, h4, h5, h6, h7⟩ := he.info
 obtain ⟨_, _, h8, h9, h10, hzo⟩ := he.zero
 rw [h3] at h8
 injection h8 with h8
 subst h8
 rw [h4] at h9
 injection h9 with h9
 subst h9
 have hzs : zv.cells.size = sz := by rw [← he.len, ← h5]; simp
 have hti : ∀ w, (typeInfo e).run P w = .ok i w := fun w => by simp [typeInfo, h3]
 have hzr : ∀ w, (zeroValue e).run P w = .ok zv w := fun w => by simp [zeroValue, typeInfo, h3, h4]
 have hsr : ∀ w, (sizeOf e).run P w = .ok sz w := fun w => sizeOf_run he.size
 simp only [evW] at hev
 split at hev
 ·rename_i m hm
  rw [hm] at hrz
  split at hev
  ·rename_i hb
   obtain ⟨hm0, hmb, hmx⟩ := hb
   have hwrap : IntKind.i64.wrap m = m := by rw [IntKind.wrap_i64]; omega
   have hneg : ¬ m < 0 := by omega
   have hbig : ¬ (m * (i.bytes : Int) > 2 ^ 48) := by rw [h7]; omega
   split at hev
   ·rename_i hq
    rw [hq] at hr
    split at hev
    ·rename_i hz0
     subst hz0
     injection hev with hev
     injection hev with e1 e2
     subst e1 e2
     refine OpOk.val hs.inv (hrun (.slice none 0 0) x.w ?_) .nilsl (by simp [AV.refs])
     rw [hr.nilsl_inv, hrz.s_inv]
     simp only [Builtin.append_, List.getElem?_toArray, List.getElem?_cons_zero, List.getElem?_cons_succ, Sem.run_bind, run_underlying h1, Result.andThen_ok, hsr, run_underlying h2, Sem.run_pure, if_true, asInt, asIntOf, hwrap, if_neg hneg, hti, if_neg hbig]
     simp
    ·rename_i hz0
     split at hev
     ·rename_i h1' hal
      injection hev with hev
      injection hev with e1 e2
      subst e1 e2
      obtain ⟨hs0, rfl⟩ := alloc1 hal
      have hlt : s < st.h.length := (List.getElem?_eq_some_iff.1 hs0).1
      let n := m.toNat
      have hn : (n : Int) = m := by simp [n]; omega
      have hnpos : 0 < n := by omega
      have hnmax : n ≤ maxLen := by simp only [maxLen]; omega
      have hnb : n * bytes ≤ 140737488355328 := by
       have : ((n * bytes : Nat) : Int) ≤ 140737488355328 := by rw [Int.natCast_mul, hn]; omega
       omega
      let cap := grownCap x.w n 0 e
      have hcap : n ≤ cap := grownCap_ge x.w _ _ _
      have hcm : cap ≤ maxLen := grownCap_le_maxLen x.w _ _ _ hnmax
      let arr : List Value := (madeCells zv.cells (n * sz)).toList ++ (madeCells zv.cells ((cap - n) * sz)).toList
      have hm' : Made x.w (x.w.drew.alloc (.cells arr.toArray e)) arr.toArray e (0, 0) := ⟨rfl, rfl, rfl, rfl, fun o _ h => by omega⟩
      have hst := Step.make (h := st.h) (cap := cap) (o := .row e sz false false (List.replicate n (zs.map cOf))) hm' hs.inv.sh hs0
      have hinv : Inv G (x.make (x.w.drew.alloc (.cells arr.toArray e)) s cap) (st.h.set s (some (.row e sz false false (List.replicate n (zs.map cOf))))) := by
       refine hs.inv.make hm' hs0 (objRel_row (arr := arr) (front := (madeCells zv.cells (n * sz)).toList) ?_ ?_ (by simpa [Cx.make] using hcap) (by simpa [Cx.make] using hcm) he.pos (fun v hv => ?_) (rowIs_zero h5 hzo he.len) (fun j v hv => ?_) fun _ => by simpa [Cx.make] using hs.b0) (by simp [Obj.refs])
       ·simpa [Cx.make] using hm'.new
       ·simp only [arr, List.length_append, Array.length_toList, size_madeCells, Cx.make, upd_same, ← Nat.add_mul]
        congr 1
        omega
       ·simp only [arr, List.mem_append] at hv
        rcases hv with hv | hv
        ·exact (rowIs_zero (x := x) (n := n) (old := false) h5 hzo he.len).one v hv
        ·exact (rowIs_zero (x := x) (n := cap - n) (old := false) h5 hzo he.len).one v hv
       ·rw [List.getElem?_append_left (List.getElem?_eq_some_iff.1 hv).1]
        exact hv
      intro K Q hK
      unfold Oper.wp
      have hrun' : (Builtin.append_ #[t, t2] o.type #[a.eval y, a.eval z]).run P x.w = .ok (.slice (some ⟨x.w.heap.size, 0, none⟩) n cap) (x.w.drew.alloc (.cells arr.toArray e)) := by
       rw [hr.nilsl_inv, hrz.s_inv]
       have hch : (choose (.appendCap n 0 e)).run P x.w = .ok cap x.w.drew := by
        rw [run_choose]
        rfl
       have h63 : ¬ (((n : Nat) : Int) > IntKind.i64.max) := by
        have : IntKind.i64.max = 9223372036854775807 := by decide
        rw [this]; omega
       have h48 : ¬ (Builtin.nextslicecap n 0 * i.bytes > 2 ^ 48) := by rw [nextslicecap_zero hnpos, h7]; omega
       have hns : n * sz ≠ 0 := by
        have := Nat.mul_pos hnpos he.pos
        omega
       simp only [Builtin.append_, List.getElem?_toArray, List.getElem?_cons_zero, List.getElem?_cons_succ, Sem.run_bind, run_underlying h1, Result.andThen_ok, hsr, run_underlying h2, Sem.run_pure, if_true, asInt, asIntOf, hwrap, if_neg hneg, hti, if_neg hbig, Nat.zero_add]
       rw [if_neg (show ¬ m.toNat ≤ 0 from by omega)]
       simp only [Sem.run_bind, hti, Result.andThen_ok, Sem.run_ite]
       rw [if_neg (show ¬ (((m.toNat : Nat) : Int) > IntKind.i64.max ∧ (True ∨ i.bytes = 0)) from fun h => h63 h.1)]
       rw [if_neg (show ¬ (Builtin.nextslicecap m.toNat 0 * i.bytes > 2 ^ 48) from h48)]
       simp only [Sem.run_bind, show (choose (.appendCap m.toNat 0 e)).run P x.w = .ok cap x.w.drew from hch, Result.andThen_ok, hti, run_askRoom, run_firstCells_none, Bool.not_true, Bool.false_eq_true, if_false]
       rw [if_neg (show ¬ m.toNat * sz = 0 from hns)]
       simp only [Sem.run_bind, hzr, Result.andThen_ok, Sem.run_pure, newRow, run_newObj, World.alloc_eq, World.size_drew, zeroCells_made hzs]
       congr 3
       simp [arr, n]
      rw [hrun _ _ hrun']
      refine hK (x.make _ s cap) _ hinv hst (.row s n _ trivial (fun e' s' o' f' l' hg => ?_) fun e' s' o' f' l' hg _ => by simp [Cx.make]) fun id hid => ?_
      ·rw [getO_set hlt, if_pos rfl] at hg
       injection hg with hg
       injection hg with _ _ _ _ h5'
       subst h5'
       simp [n]
      ·simp only [AV.refs, List.mem_singleton] at hid
       subst hid
       rw [getO_set hlt, if_pos rfl]
       rfl
     ·simp at hev
   ·simp at hev
  ·simp at hev
 ·simp at hev
theorem trunc_ok {o : Oper} {y z : Operand} {t e : TypeId} {s : Nat} {F : FnEv} (ho : o.op = .slice t y none (some z) none) (h1 : P.underlying t = some (.slice e)) (h2 : ∃ sz, TSize P e sz) (hs : RelS G x st a) {v : AV} {h' : Heap} (hev : evW G st.t F st.h (.trunc s (trO y) (trO z)) = some (v, h')) : OpOk P o a G x st.h v h' := by
 have hr := hs.opd y
 have hrz := hs.opd z
 obtain ⟨sz, h2⟩ := h2
 have hrun : ∀ base n cap k i, a.eval y = .slice base n cap → a.eval z = .int k i → 0 ≤ i → i ≤ (cap : Int) → (base = none ∨ ∃ g q, base = some ⟨g, q, none⟩) → (execOp a.eval o).run P x.w = .ok (.value (.slice base i.toNat cap)) x.w := fun base n cap k i hy hz h3 h4 hb => by
  have hsb : (Instr.sliceBound (.int k i) cap .sliceAcap).run P x.w = .ok i.toNat x.w := by
   simp only [Instr.sliceBound, asIntOf, Sem.run_bind, Sem.run_pure, Result.andThen_ok]
   rw [if_pos ⟨h3, h4⟩]
   rfl
  simp only [execOp, ho, Instr.sliceAt, Sem.run_bind, run_underlying h1, Result.andThen_ok, Instr.slice, hy, Instr.sliceBounds, Option.map_none, Option.map_some, hz, Sem.run_pure, if_true, hsb, sizeOf_run h2, Nat.sub_zero, Nat.zero_mul]
  rcases hb with rfl | ⟨g, q, rfl⟩
  ·simp
  ·simp [Addr.add_lit]
 simp only [evW] at hev
 split at hev
 ·rename_i id n k i hq hqz
  rw [hq] at hr
  rw [hqz] at hrz
  split at hev
  ·rename_i e0 s0 o' l hrow
   obtain ⟨hg, hlen⟩ := rowAt_inv hrow
   split at hev
   ·rename_i hin
    split at hev
    ·rename_i h1' hal
     injection hev with hev
     injection hev with e1 e2
     subst e1 e2
     obtain ⟨hs0, rfl⟩ := alloc1 hal
     have hlt0 := getO_lt (by rw [hg]; rfl : (getO st.h id).isSome)
     have hlts : s < st.h.length := by have := (List.getElem?_eq_some_iff.1 hs0).1; simpa using this
     have hne : s ≠ id := by
      rintro rfl
      rw [List.getElem?_set_self hlt0] at hs0
      simp at hs0
     have hs1 : getO st.h s = none := by
      rw [List.getElem?_set_ne (Ne.symm hne)] at hs0
      simp [getO, List.getD, hs0]
     obtain ⟨arr, hb1, hsize, hcap, hmax, hpos, hone, hfront, hB⟩ := obj_row hs.inv hg
     have hget : ∀ j, getO ((st.h.set id (some .dead)).set s (some (.row e0 s0 o' false (l.take i.toNat)))) j = if j = s then some (.row e0 s0 o' false (l.take i.toNat)) else if j = id then some .dead else getO st.h j := fun j => by
      rw [getO_set (by simpa using hlts)]
      by_cases c1 : j = s
      ·rw [if_pos c1, if_pos c1]
      ·rw [if_neg c1, if_neg c1, getO_set hlt0]
     generalize hh' : (st.h.set id (some .dead)).set s (some (.row e0 s0 o' false (l.take i.toNat))) = h' at hget ⊢
     let x' : Cx := { x with φ := upd x.φ s (x.φ id), κ := upd x.κ s (x.κ id) }
     have hst : Step (fun _ => True) x st.h x' h' := {
      ext := ⟨rfl, rfl, fun b o hS => ⟨hS, rfl⟩⟩
      size := Nat.le_refl _
      evo := fun j _ hj => by
       have c1 : j ≠ s := by rintro rfl; rw [hs1] at hj; simp at hj
       by_cases c2 : j = id
       ·subst c2
        refine ⟨⟨fun cs hc => ?_, fun e s o f l' hc => ?_, fun d hc => ?_⟩, ?_⟩ <;> rw [hget, if_neg c1, if_pos rfl] at * <;> simp_all
       ·refine ⟨.same (by rw [hget, if_neg c1, if_neg c2]) (upd_other _ c1) (upd_other _ c1), ?_⟩
        rw [hget, if_neg c1, if_neg c2]
        exact hj
      frame := fun b _ _ _ => rfl
      sgrow := fun b o hS => .inl hS
      bfresh := fun j d b hg' hO => by
       rw [hget] at hg'
       by_cases c1 : j = s
       ·rw [if_pos c1] at hg'; simp at hg'
       ·rw [if_neg c1] at hg'
        by_cases c2 : j = id
        ·rw [if_pos c2] at hg'; simp at hg'
        ·rw [if_neg c2] at hg'
         exact .inl ⟨j, d, hg', hO⟩
      fresh := fun j ob hg' hmut => by
       left
       rw [hget] at hg'
       by_cases c1 : j = s
       ·exact ⟨id, _, hg, rfl, by simp [x', c1]⟩
       ·rw [if_neg c1] at hg'
        by_cases c2 : j = id
        ·rw [if_pos c2] at hg'
         injection hg' with hg'
         subst hg'
         exact hmut.elim
        ·rw [if_neg c2] at hg'
         exact ⟨j, ob, hg', hmut, upd_other _ c1⟩
      frow := fun j ob hg' hrow => by
       left
       rw [hget] at hg'
       by_cases c1 : j = s
       ·exact ⟨id, _, hg, trivial, fun _ => rfl, by simp [x', c1]⟩
       ·rw [if_neg c1] at hg'
        by_cases c2 : j = id
        ·rw [if_pos c2] at hg'
         injection hg' with hg'
         subst hg'
         exact hrow.elim
        ·rw [if_neg c2] at hg'
         exact ⟨j, ob, hg', hrow, fun h => h, upd_other _ c1⟩
      os := rfl
      tape := rfl
      output := rfl
      nf := fun _ h => h }
     have hinv : Inv G x' h' := {
      obj := fun j ob hg' => by
       rw [hget] at hg'
       by_cases c1 : j = s
       ·rw [if_pos c1] at hg'
        injection hg' with hg'
        subst hg' c1
        have hle : (l.take i.toNat).length * s0 ≤ arr.size := by
         rw [hsize]
         exact Nat.mul_le_mul_right _ (by simp; omega)
        refine objRel_row (arr := arr.toList) (front := (arr.toList.take (l.length * s0)).take ((l.take i.toNat).length * s0)) (by simpa [x'] using hb1) (by simpa [x'] using hsize) (by simp [x']; omega) (by simpa [x'] using hmax) hpos (fun v hv => hone v (by simpa using hv)) ⟨?_, fun el hel => hfront.els el (List.mem_of_mem_take hel), fun v hv => hfront.one v (List.mem_of_mem_take hv), fun i' k' el c h11 h12 => ?_⟩ (fun q v hv => ?_) (by simpa [x'] using hB)
        ·rw [List.length_take, hfront.size]
         have : (l.take i.toNat).length ≤ l.length := by simp; omega
         have := Nat.mul_le_mul_right s0 this
         omega
        ·rw [List.getElem?_take] at h11
         split at h11
         ·rename_i hlt
          obtain ⟨v, h13, h14⟩ := hfront.rep i' k' el c h11 h12
          refine ⟨v, ?_, h14⟩
          have hk : k' < s0 := by rw [← hfront.els el (List.mem_of_getElem? h11)]; exact (List.getElem?_eq_some_iff.1 h12).1
          have hi' : i' < l.length := (List.getElem?_eq_some_iff.1 h11).1
          have hlt2 : i' < (l.take i.toNat).length := by simp; omega
          have hm := Nat.mul_le_mul_right s0 hlt2
          rw [Nat.succ_mul] at hm
          rw [List.getElem?_take, if_pos (by omega)]
          exact h13
         ·simp at h11
        ·rw [List.getElem?_take] at hv
         split at hv
         ·rw [List.getElem?_take] at hv
          split at hv
          ·exact hv
          ·simp at hv
         ·simp at hv
       ·rw [if_neg c1] at hg'
        by_cases c2 : j = id
        ·rw [if_pos c2] at hg'
         injection hg' with hg'
         subst hg'
         trivial
        ·rw [if_neg c2] at hg'
         exact (hs.inv.obj j ob hg').mono hst.ext rfl (upd_other _ c1) (upd_other _ c1) (fun q hq' => (hst.evo q trivial (hs.inv.live j ob hg' q hq')).1) fun d _ => ⟨rfl, fun _ _ => rfl, fun _ _ _ h => h⟩
      inj := fun p q op oq gp gq dp dq hpq => by
       rw [hget] at gp gq
       have hφ : ∀ j, x'.φ j = if j = s then x.φ id else x.φ j := fun j => by simp [x', upd]
       rw [hφ, hφ] at hpq
       by_cases c1 : p = s
       ·by_cases c3 : q = s
        ·rw [c1, c3]
        ·rw [if_pos c1, if_neg c3] at hpq
         rw [if_neg c3] at gq
         by_cases c4 : q = id
         ·rw [if_pos c4] at gq
          injection gq with gq
          exact absurd gq.symm dq
         ·rw [if_neg c4] at gq
          exact absurd (hs.inv.inj id q _ _ hg gq (by simp) dq hpq).symm c4
       ·rw [if_neg c1] at gp hpq
        by_cases c2 : p = id
        ·rw [if_pos c2] at gp
         injection gp with gp
         exact absurd gp.symm dp
        ·rw [if_neg c2] at gp
         by_cases c3 : q = s
         ·rw [if_pos c3] at hpq
          exact absurd (hs.inv.inj p id _ _ gp hg dp (by simp) hpq) c2
         ·rw [if_neg c3] at gq hpq
          by_cases c4 : q = id
          ·rw [if_pos c4] at gq
           injection gq with gq
           exact absurd gq.symm dq
          ·rw [if_neg c4] at gq
           exact hs.inv.inj p q _ _ gp gq dp dq hpq
      own := fun j ob hg' hmut q => by
       rw [hget] at hg'
       by_cases c1 : j = s
       ·subst c1
        simpa [x'] using hs.inv.own id _ hg rfl q
       ·rw [if_neg c1] at hg'
        by_cases c2 : j = id
        ·rw [if_pos c2] at hg'
         injection hg' with hg'
         subst hg'
         exact hmut.elim
        ·rw [if_neg c2] at hg'
         simpa [x', upd_other _ c1] using hs.inv.own j ob hg' hmut q
      bgo := hs.inv.bgo
      big := fun j d hg' b hO => by
       have old : ∀ {i : Nat} {d : Big}, getO h' i = some (.big d) → getO st.h i = some (.big d) := fun {i d} hgi => by
        rw [hget] at hgi
        by_cases c1 : i = s
        ·rw [if_pos c1] at hgi; simp at hgi
        ·rw [if_neg c1] at hgi
         by_cases c2 : i = id
         ·rw [if_pos c2] at hgi; simp at hgi
         ·rwa [if_neg c2] at hgi
       obtain ⟨k1, k2, k3⟩ := hs.inv.big j d (old hg') b hO
       refine ⟨k1, fun i o hgi hd hp => ?_, fun i d' hgi hOi => k3 i d' (old hgi) hOi⟩
       rw [hget] at hgi
       by_cases c1 : i = s
       ·refine k2 id _ hg (by simp) ?_
        simpa [x', c1] using hp
       ·rw [if_neg c1] at hgi
        by_cases c2 : i = id
        ·rw [if_pos c2] at hgi
         injection hgi with hgi
         exact absurd hgi.symm hd
        ·rw [if_neg c2] at hgi
         refine k2 i o hgi hd ?_
         simpa [x', upd_other _ c1] using hp
      sh := hs.inv.sh
      live := fun j ob hg' q hq' => by
       rw [hget] at hg'
       by_cases c1 : j = s
       ·rw [if_pos c1] at hg'
        injection hg' with hg'
        subst hg'
        simp [Obj.refs] at hq'
       ·rw [if_neg c1] at hg'
        by_cases c2 : j = id
        ·rw [if_pos c2] at hg'
         injection hg' with hg'
         subst hg'
         simp [Obj.refs] at hq'
        ·rw [if_neg c2] at hg'
         exact (hst.evo q trivial (hs.inv.live j ob hg' q hq')).2
      glob := hs.inv.glob }
     cases hr with
     | row id n u hv hle hr =>
      have hy := hr _ _ _ _ _ hg hlen
      intro K Q hK
      unfold Oper.wp
      rw [hrun _ _ _ k i hy hrz.s_inv hin.1 (by omega) (.inr ⟨_, _, rfl⟩)]
      refine hK x' _ hinv hst (.row s i.toNat _ trivial (fun e' s' o'' f' l' hc => ?_) fun e' s' o'' f' l' hc _ => by simp [x']) fun q hq' => ?_
      ·rw [hget, if_pos rfl] at hc
       injection hc with hc
       injection hc with _ _ _ _ e5
       subst e5
       simp
       omega
      ·simp only [AV.refs, List.mem_singleton] at hq'
       subst hq'
       rw [hget, if_pos rfl]
       rfl
    ·simp at hev
   ·simp at hev
  ·simp at hev
 ·rename_i k i hq hqz
  rw [hq] at hr
  rw [hqz] at hrz
  split at hev
  ·rename_i hi0
   subst hi0
   injection hev with hev
   injection hev with e1 e2
   subst e1 e2
   exact OpOk.val hs.inv (hrun none 0 0 k 0 hr.nilsl_inv hrz.s_inv (by omega) (by omega) (.inl rfl)) .nilsl (by simp [AV.refs])
  ·simp at hev
 ·simp at hev
structure Frz (G : Cf) (x : Cx) (h : Heap) (x' : Cx) (h' : Heap) : Prop where
 w : x'.w = x.w
 inv : Inv G x' h'
 step : Step (fun _ => True) x h x' h'
theorem frz1_ok {h h' : Heap} (hi : Inv G x h) {v v' : AV} {u : Value} (hr : RelV x h v u) (he : frz1 h v = some (v', h')) : ∃ x', Frz G x h x' h' ∧ RelV x' h' v' u ∧ ∀ id ∈ v'.refs, id ∈ v.refs := by
 unfold frz1 at he
 split at he
 ·rename_i id n
  split at he
  ·rename_i e s o f l hrow
   injection he with he
   injection he with e1 e2
   subst e1 e2
   obtain ⟨hg, hlen⟩ := rowAt_inv hrow
   obtain ⟨arr, h1, h2, h3, h4, h5, h6, h7, h8, h9, h10⟩ := hi.obj id _ hg
   have hlt := getO_lt (by rw [hg]; rfl : (getO h id).isSome)
   let x' : Cx := { x with S := fun b q => x.S b q ∨ (b = x.φ id ∧ q < l.length * s) }
   have hext : Ext x x' := ⟨rfl, rfl, fun b q hS => ⟨.inl hS, rfl⟩⟩
   have hevo : ∀ j, Evo x h x' (h.set id (some (.row e s o true l))) j := fun j => by
    by_cases c : j = id
    ·subst c
     refine ⟨fun cs hc => ?_, fun e' s' o' f' l' hc => ?_, fun d hc => by rw [getO_set hlt, if_pos rfl] at hc; simp at hc⟩
     ·rw [getO_set hlt, if_pos rfl] at hc
      simp at hc
     ·rw [getO_set hlt, if_pos rfl] at hc
      injection hc with hc
      injection hc with a1 a2 a3 a4 a5
      subst a1 a2 a5
      exact ⟨o, f, l, hg, Nat.le_refl _, fun _ => ⟨rfl, rfl⟩⟩
    ·exact .same (by rw [getO_set hlt, if_neg c]) rfl rfl
   have hnew : ∀ b q, x'.S b q → x.S b q ∨ (f = false ∧ b = x.φ id) := fun b q hS => hS.elim .inl fun hb => by
    cases f with
    | false => exact .inr ⟨rfl, hb.1⟩
    | true => rw [hb.1]; exact .inl (h9 rfl q hb.2).1
   have hst : Step (fun _ => True) x h x' (h.set id (some (.row e s o true l))) := {
    ext := hext
    size := Nat.le_refl _
    evo := fun j _ hj => ⟨hevo j, by
     by_cases c : j = id
     ·rw [getO_set hlt, if_pos c]; rfl
     ·rw [getO_set hlt, if_neg c]; exact hj⟩
    frame := fun b _ _ _ => rfl
    bfresh := bfresh_set hlt rfl (by intro d h; cases h)
    sgrow := fun b q hS => (hnew b q hS).elim .inl fun hb => .inr (.inl ⟨id, _, hg, trivial, hb.1, hb.2.symm⟩)
    fresh := fun j ob hg' hmut => by
     left
     by_cases c : j = id
     ·rw [getO_set hlt, if_pos c] at hg'
      injection hg' with hg'
      subst hg'
      simp [Obj.mut] at hmut
     ·rw [getO_set hlt, if_neg c] at hg'
      exact ⟨j, ob, hg', hmut, rfl⟩
    frow := fun j ob hg' hrow => by
     left
     by_cases c : j = id
     ·rw [getO_set hlt, if_pos c] at hg'
      injection hg' with hg'
      subst hg'
      exact ⟨id, _, hg, trivial, fun h => by simp [Obj.mut] at h, by rw [c]⟩
     ·rw [getO_set hlt, if_neg c] at hg'
      exact ⟨j, ob, hg', hrow, fun h => h, rfl⟩
    os := rfl
    tape := rfl
    output := rfl
    nf := fun _ h => h }
   have hinv : Inv G x' (h.set id (some (.row e s o true l))) := by
    refine hi.update id hst rfl (fun _ _ _ _ _ => rfl) (fun i d hgd c q hc hS => (hnew c q hS).elim (fun h => h) fun hb => absurd hb.2.symm ((hi.big i d hgd c hc).2.1 id _ hg (by simp))) (fun o' hg' => by
     rw [getO_set hlt, if_pos rfl] at hg'
     injection hg' with hg'
     subst hg'
     exact ⟨(by intro d h; cases h), fun _ i d hgd hO => (hi.big i d hgd _ hO).2.1 id _ hg (by simp) rfl⟩) (fun j c => by rw [getO_set hlt, if_neg c]) (fun _ _ => rfl) (fun _ _ => rfl) (fun _ _ _ _ _ => rfl) (fun j ob c hg' hmut q hS => ?_) (fun b q hS => ?_) (fun ob hg' => ?_)
    ·rcases hnew _ _ hS with hS | hS
     ·exact hi.own j ob hg' hmut q hS
     ·exact c (hi.inj j id _ _ hg' hg (Obj.mut_ne hmut) (by simp) hS.2)
    ·rcases hnew _ _ hS with hS | hS
     ·exact hi.sh b q hS
     ·rw [hS.2]; exact block_lt hi hg (by simp)
    ·rw [getO_set hlt, if_pos rfl] at hg'
     injection hg' with hg'
     subst hg'
     refine ⟨⟨arr, h1, h2, h3, h4, h5, h6, h7, fun i k el c h11 h12 => ?_, fun _ j hj => ⟨.inr ⟨rfl, hj⟩, ?_⟩, h10⟩, by simp [Obj.refs], fun hmut => by simp [Obj.mut] at hmut, fun _ j ob c hgj hd hp => c (hi.inj j id _ _ hgj hg hd (by simp) hp.symm)⟩
     ·obtain ⟨v, h13, h14⟩ := h8 i k el c h11 h12
      exact ⟨v, h13, h14.mono (hext.sh o)⟩
     ·cases o with
      | true => exact .inl rfl
      | false => exact .inr (h10 rfl)
   refine ⟨x', ⟨rfl, hinv, hst⟩, ?_, by simp [AV.refs]⟩
   cases hr with
   | row id n u hv hle hr =>
    have hu := hr _ _ _ _ _ hg hlen
    rw [hu]
    subst hlen
    refine .sl o l _ ?_
    by_cases hne : l = []
    ·subst hne
     exact .nil _ _ (by simp)
    ·have hle1 : l.length * s ≤ arr.size := by rw [h2]; exact Nat.mul_le_mul_right _ h3
     refine .sl l s (x.φ id) 0 _ (fun j => arr.getD j undef) hne h6 h3 (fun j hj => ⟨⟨.inr ⟨rfl, by omega⟩, ?_⟩, ?_⟩) fun i k el c h11 h12 => ?_
     ·cases o with
      | true => exact .inl rfl
      | false => exact .inr (h10 rfl)
     ·have : j < arr.size := by omega
      rw [Nat.zero_add]
      simp [x', World.cell?, h1, Array.getD, this]
     ·obtain ⟨v, h13, h14⟩ := h8 i k el c h11 h12
      simpa [Array.getD_eq_getD_getElem?, h13] using h14.mono (hext.sh o)
  ·simp at he
 ·injection he with he
  injection he with e1 e2
  subst e1 e2
  exact ⟨x, ⟨rfl, hi, Step.refl _ _ _⟩, hr, fun id h => h⟩
theorem Frz.trans {y z : Cx} {h h1 h2 : Heap} (p : Frz G x h y h1) (q : Frz G y h1 z h2) : Frz G x h z h2 := ⟨q.w.trans p.w, q.inv, p.step.trans q.step⟩
theorem frzL_ok : ∀ {l l' : List AV} {vs : List Value} {x : Cx} {h h' : Heap}, Inv G x h → l.length = vs.length → (∀ (i : Nat) (a : AV) (v : Value), l[i]? = some a → vs[i]? = some v → RelV x h a v) → Live h l → frzL h l = some (l', h') →
  ∃ x', Frz G x h x' h' ∧ l'.length = vs.length ∧ (∀ (i : Nat) (a : AV) (v : Value), l'[i]? = some a → vs[i]? = some v → RelV x' h' a v) ∧ ∀ id ∈ refsL l', id ∈ refsL l
 | [], l', vs, x, h, h', hi, hl, _, _, he => by
  simp only [frzL, Option.some.injEq, Prod.mk.injEq] at he
  obtain ⟨rfl, rfl⟩ := he
  exact ⟨x, ⟨rfl, hi, Step.refl _ _ _⟩, hl, fun i a v h1 _ => by simp at h1, fun id h => h⟩
 | b :: l, l', vs, x, h, h', hi, hl, hr, hlv, he => by
  cases vs with
  | nil => simp at hl
  | cons v vs =>
   simp only [frzL] at he
   split at he
   ·rename_i b' h1 hb
    split at he
    ·rename_i r h2 hr2
     injection he with he
     injection he with e1 e2
     subst e1 e2
     obtain ⟨x1, f1, r1, s1⟩ := frz1_ok hi (hr 0 b v rfl rfl) hb
     have hlive1 : Live h l := fun id hid => hlv id (by simp only [refsL, List.mem_append]; exact .inr hid)
     obtain ⟨x2, f2, l2, r2, s2⟩ := frzL_ok (vs := vs) f1.inv (by simpa using hl) (fun i a v h3 h4 => (hr (i + 1) a v (by simpa using h3) (by simpa using h4)).step f1.step fun id hid => ⟨trivial, hlive1 id (mem_refsL h3 hid)⟩) (fun id hid => (f1.step.evo id trivial (hlive1 id hid)).2) hr2
     refine ⟨x2, f1.trans f2, by simp [l2], fun i a w h3 h4 => ?_, fun id hid => ?_⟩
     ·cases i with
      | zero =>
       simp only [List.getElem?_cons_zero, Option.some.injEq] at h3 h4
       subst h3 h4
       exact r1.step f2.step fun id hid => ⟨trivial, (f1.step.evo id trivial (hlv id (by simp only [refsL, List.mem_append]; exact .inl (s1 id hid)))).2⟩
      | succ i => exact r2 i a w (by simpa using h3) (by simpa using h4)
     ·simp only [refsL, List.mem_append] at hid ⊢
      exact hid.imp (s1 id) (s2 id)
    ·simp at he
   ·simp at he
theorem frz_ok {h h' : Heap} (hi : Inv G x h) {v v' : AV} {u : Value} (hr : RelV x h v u) (hl : ∀ id ∈ v.refs, (getO h id).isSome) (he : frz h v = some (v', h')) : ∃ x', Frz G x h x' h' ∧ RelV x' h' v' u ∧ ∀ id ∈ v'.refs, id ∈ v.refs := by
 unfold frz at he
 split at he
 ·rename_i l
  split at he
  ·rename_i l' h1 hl'
   injection he with he
   injection he with e1 e2
   subst e1 e2
   obtain ⟨vs, rfl, hlen, hrel⟩ := hr.agg_inv
   obtain ⟨x', f, l2, r2, s2⟩ := frzL_ok hi hlen hrel (fun id hid => hl id (by simpa [AV.refs] using hid)) hl'
   exact ⟨x', f, .agg _ _ l2 r2, fun id hid => by simpa [AV.refs] using s2 id (by simpa [AV.refs] using hid)⟩
  ·simp at he
 ·exact frz1_ok hi hr he
theorem RelS.step' {x' : Cx} {h' : Heap} (hs : RelS G x st a) (hi : Inv G x' h') (hst : Step (fun _ => True) x st.h x' h') : RelS G x' ⟨st.t, h'⟩ a where
 inv := hi
 b0 := by rw [hst.ext.b0]; exact Nat.le_trans hs.b0 hst.size
 size := hs.size
 vals := fun i hl => (hs.vals i hl).step hst fun id hid => ⟨trivial, hs.live id (getD_mem hid)⟩
 live := fun id hid => (hst.evo id trivial (hs.live id hid)).2
theorem RelS.put {v : AV} {u : Value} (hs : RelS G x st a) (d : Nat) (hv : RelV x st.h v u) (hl : ∀ id ∈ v.refs, (getO st.h id).isSome) : RelS G x ⟨st.t.set d v, st.h⟩ (a.put (some d) u) where
 inv := hs.inv
 b0 := hs.b0
 size := by simpa [Act.put] using hs.size
 vals := fun i hi => by
  simp only [List.length_set] at hi
  have hsz := hs.size
  by_cases c : d = i
  ·subst c
   have h1 : (st.t.set d v).getD d .undef = v := by simp [List.getD, hi]
   have h2 : (a.put (some d) u).tmps.getD d undef = u := by simp [Act.put, Array.getD_eq_getD_getElem?, hsz, hi]
   rw [h1, h2]
   exact hv
  ·have h1 : (st.t.set d v).getD i .undef = st.t.getD i .undef := by simp [List.getD, c]
   have h2 : (a.put (some d) u).tmps.getD i undef = a.tmps.getD i undef := by simp [Act.put, Array.getD_eq_getD_getElem?, Array.getElem?_setIfInBounds, c]
   rw [h1, h2]
   exact hs.vals i hi
 live := fun id hid => by
  obtain ⟨i, b, h1, h2⟩ := mem_refsL_iff.1 hid
  rcases List.mem_or_eq_of_mem_set (List.mem_of_getElem? h1) with h3 | h3
  ·obtain ⟨j, hj⟩ := List.getElem?_of_mem h3
   exact hs.live id (mem_refsL hj h2)
  ·subst h3
   exact hl id h2
theorem frzTs_ok : ∀ (l : List Nat) {x : Cx} {st st' : St}, RelS G x st a → frzTs l st = some st' → ∃ x', Frz G x st.h x' st'.h ∧ RelS G x' st' a
 | [], x, st, st', hs, he => by
  simp only [frzTs, Option.some.injEq] at he
  subst he
  exact ⟨x, ⟨rfl, hs.inv, Step.refl _ _ _⟩, hs⟩
 | i :: r, x, st, st', hs, he => by
  simp only [frzTs] at he
  split at he
  ·rename_i v h1 hv
   obtain ⟨x1, f1, r1, s1⟩ := frz_ok hs.inv (hs.val i) (fun id hid => hs.live id (getD_mem hid)) hv
   have hs1 := hs.step' f1.inv f1.step
   have hput := hs1.put i (v := v) (u := a.tmps.getD i undef) r1 fun id hid => (f1.step.evo id trivial (hs.live id (getD_mem (s1 id hid)))).2
   have hact : a.put (some i) (a.tmps.getD i undef) = a := by
    cases a with
    | mk tmps defers =>
     simp only [Act.put, Act.mk.injEq, and_true]
     apply Array.ext_getElem?
     intro j
     rw [Array.getElem?_setIfInBounds]
     by_cases c : i = j
     ·subst c
      by_cases hlt : i < tmps.size
      ·simp [hlt, Array.getD]
      ·simp [hlt]
     ·simp [c]
   rw [hact] at hput
   obtain ⟨x2, f2, s2⟩ := frzTs_ok r hput he
   exact ⟨x2, f1.trans f2, s2⟩
  ·simp at he
end
end Go.Ev
set_option linter.unusedSimpArgs false
set_option linter.unusedVariables false
namespace Go.Ev
section
variable {P : Program} {G : Cf} {x : Cx} {st : St} {a : Act}
theorem freeze_heap {w : World} {b n : Nat} {arr : Array Value} {e : TypeId} (hb : w.heap[b]? = some (.cells arr e (0, 0))) :
  (w.freeze ⟨b, n, none⟩ 1).heap[b]? = some (.cells arr e (n, n + 1)) ∧ ∀ k, k ≠ b → (w.freeze ⟨b, n, none⟩ 1).heap[k]? = w.heap[k]? := by
 unfold World.freeze
 rw [if_neg (by decide)]
 refine ⟨?_, fun k hk => ?_⟩
 ·simp only [Array.getElem?_modify, if_true, hb, Option.map_some]
  rfl
 ·simp only [Array.getElem?_modify]
  rw [if_neg (fun h => hk h.symm)]
theorem markb_ok {o : Oper} {y : Operand} {t e : TypeId} {F : FnEv} (ho : o.op = .convert t t y) (h1 : P.underlying t = some (.slice e)) (h2 : P.underlying e = some (.int .u8)) (hs : RelS G x st a) {v : AV} {h' : Heap}
  (hev : evW G st.t F st.h (.markb (trO y)) = some (v, h')) : OpOk P o a G x st.h v h' := by
 have hr := hs.opd y
 simp only [evW] at hev
 split at hev
 ·rename_i id n hq
  rw [hq] at hr
  split at hev
  ·rename_i e0 s0 o' l hrow
   injection hev with hev
   injection hev with e1 e2
   subst e1 e2
   obtain ⟨hg, hlen⟩ := rowAt_inv hrow
   obtain ⟨arr, hb, hsz, hcap, hmax, hpos, h6, h7, h8, _, h10⟩ := hs.inv.obj id _ hg
   have hlt := getO_lt (by rw [hg]; rfl : (getO st.h id).isSome)
   cases hr with
   | row id n u hv hle hr =>
    have hu := hr _ _ _ _ _ hg hlen
    subst hlen
    let w' := x.w.freeze ⟨x.φ id, arr.size, none⟩ 1
    obtain ⟨f1, f2⟩ := freeze_heap (n := arr.size) hb
    have hmeta : w'.os = x.w.os ∧ w'.tape = x.w.tape ∧ w'.output = x.w.output ∧ w'.heap.size = x.w.heap.size := by
     simp only [w', World.freeze]
     rw [if_neg (by decide)]
     simp
    have hrun : (execOp a.eval o).run P x.w = .ok (.value (.slice (some ⟨x.φ id, 0, none⟩) l.length (x.κ id))) w' := by
     have hsh : x.w.shape? (x.φ id) = some (e0, arr.size) := by
      unfold World.shape?
      rw [hb]
     simp [execOp, ho, hu, convert, run_underlying h1, run_underlying h2, markStringish, hsh, w']
    let x' : Cx := { x with w := w', S := fun b q => x.S b q ∨ (b = x.φ id ∧ q < l.length * s0) }
    have hne : ∀ b q, x.S b q → b ≠ x.φ id := fun b q hS hb' => hs.inv.own id _ hg rfl q (hb' ▸ hS)
    have hext : Ext x x' := ⟨rfl, rfl, fun b q hS => ⟨.inl hS, by simp only [x', World.cell?, f2 b (hne b q hS)]; rw [show w'.heap[b]? = x.w.heap[b]? from f2 b (hne b q hS)]⟩⟩
    have hget : ∀ j, getO (st.h.set id (some .dead)) j = if j = id then some .dead else getO st.h j := fun j => getO_set hlt j
    have hst : Step (fun _ => True) x st.h x' (st.h.set id (some .dead)) := {
     ext := hext
     size := by simp only [x', hmeta.2.2.2]; exact Nat.le_refl _
     evo := fun j _ hj => by
      by_cases c : j = id
      ·subst c
       refine ⟨⟨fun cs hc => ?_, fun e s o f l' hc => ?_, fun d hc => by rw [hget, if_pos rfl] at hc; simp at hc⟩, by rw [hget, if_pos rfl]; rfl⟩
       ·rw [hget, if_pos rfl] at hc; simp at hc
       ·rw [hget, if_pos rfl] at hc; simp at hc
      ·exact ⟨.same (by rw [hget, if_neg c]) rfl rfl, by rw [hget, if_neg c]; exact hj⟩
     frame := fun b hb' hm _ => f2 b fun hbe => hm id _ hg rfl hbe.symm
     bfresh := bfresh_set hlt rfl (by intro d h; cases h)
     sgrow := fun b q hS => hS.elim .inl fun hS => .inr (.inl ⟨id, _, hg, trivial, rfl, hS.1.symm⟩)
     fresh := fun j ob hg' hmut => by
      by_cases c : j = id
      ·rw [hget, if_pos c] at hg'
       injection hg' with hg'
       subst hg'
       exact hmut.elim
      ·rw [hget, if_neg c] at hg'
       exact .inl ⟨j, ob, hg', hmut, rfl⟩
     frow := fun j ob hg' hrow => by
      by_cases c : j = id
      ·rw [hget, if_pos c] at hg'
       injection hg' with hg'
       subst hg'
       exact hrow.elim
      ·rw [hget, if_neg c] at hg'
       exact .inl ⟨j, ob, hg', hrow, fun h => h, rfl⟩
     os := hmeta.1
     tape := hmeta.2.1
     output := hmeta.2.2.1
     nf := fun N hn => NF.cells f1 (fun o _ h => by omega) (fun b hb => .inl (f2 b hb)) hn }
    have hinv : Inv G x' (st.h.set id (some .dead)) := by
     refine hs.inv.update id hst rfl (fun i d hgd c hc => f2 _ fun hbe => (hs.inv.big i d hgd c hc).2.1 id _ hg (by simp) hbe.symm) (fun i d hgd c q hc hS => hS.elim (fun h => h) fun hb => absurd hb.1.symm ((hs.inv.big i d hgd c hc).2.1 id _ hg (by simp))) (fun o' hg' => by
      rw [hget, if_pos rfl] at hg'
      injection hg' with hg'
      subst hg'
      exact ⟨(by intro d h; cases h), fun h => absurd rfl h⟩) (fun j c => by rw [hget, if_neg c]) (fun _ _ => rfl) (fun _ _ => rfl) (fun j ob c hgj hd => ?_) (fun j ob c hgj hmut q hS => ?_) (fun b q hS => ?_) (fun ob hg' => ?_)
     ·exact f2 _ fun hbe => c (hs.inv.inj j id _ _ hgj hg hd (by simp) hbe)
     ·rcases hS with hS | hS
      ·exact hs.inv.own j ob hgj hmut q hS
      ·exact c (hs.inv.inj j id _ _ hgj hg (Obj.mut_ne hmut) (by simp) hS.1)
     ·simp only [x', hmeta.2.2.2]
      rcases hS with hS | hS
      ·exact hs.inv.sh b q hS
      ·rw [hS.1]; exact block_lt hs.inv hg (by simp)
     ·rw [hget, if_pos rfl] at hg'
      injection hg' with hg'
      subst hg'
      exact ⟨trivial, by simp [Obj.refs], fun hm => hm.elim, fun hd => absurd rfl hd⟩
    intro K Q hK
    unfold Oper.wp
    rw [hrun]
    refine hK x' _ hinv hst ?_ (by simp [AV.refs])
    refine .sl o' l _ ?_
    by_cases hne0 : l = []
    ·subst hne0
     exact .nil _ _ (by simp)
    ·have hle1 : l.length * s0 ≤ arr.size := by rw [hsz]; exact Nat.mul_le_mul_right _ hcap
     refine .sl l s0 (x.φ id) 0 _ (fun j => arr.getD j undef) hne0 h6 hcap (fun j hj => ⟨⟨.inr ⟨rfl, by omega⟩, ?_⟩, ?_⟩) fun i k el c h11 h12 => ?_
     ·cases o' with
      | true => exact .inl rfl
      | false => exact .inr (h10 rfl)
     ·have : j < arr.size := by omega
      rw [Nat.zero_add]
      simp only [x', World.cell?]
      rw [show w'.heap[x.φ id]? = _ from f1]
      simp [Array.getD, this]
     ·obtain ⟨v, h13, h14⟩ := h8 i k el c h11 h12
      simpa [Array.getD_eq_getD_getElem?, h13] using h14.mono (hext.sh o')
  ·simp at hev
 ·simp at hev
end
end Go.Ev
