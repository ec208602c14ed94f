/-
  The operations that look at memory.
-/
import Derived.Test.YtebiajdkgpcidaaEvOps2
import Derived.Laws.BytesString
import Derived.Laws.Externs
import Derived.Lib.Bytealg
import Derived.KernelRfl
set_option linter.unusedSimpArgs false
set_option linter.unusedVariables false
namespace Go.Ev
section
variable {P : Program} {G : Cf} {x : Cx} {st : St} {a : Act}

theorem Rep.ofC {h : Heap} {old : Bool} {c : C} {v : Value} (hr : Rep x.w (x.sh old) c v) : RelV x h (ofC old c) v := by
  cases c with
  | sc u => cases hr; exact .s _
  | sl l => exact .sl old l v hr

theorem refs_ofC (old : Bool) (c : C) : (ofC old c).refs = [] := by cases c <;> rfl

theorem Rep.one {w : World} {S : Nat → Nat → Prop} {c : C} {v : Value} (hr : Rep w S c v) : v.oneCell' = true := by
  cases hr with
  | sc v h => exact h
  | nil => rfl
  | sl => rfl

/-- The elements of a slice, where they lie. -/
structure ElemsAt (x : Cx) (old : Bool) (l : List (List C)) (base : Option Addr) (cap : Nat) : Prop where
  cap : l.length ≤ cap
  at_ : l ≠ [] → ∃ sz b o, ∃ vals : Nat → Value, base = some ⟨b, o, none⟩ ∧ (∀ e ∈ l, e.length = sz) ∧ (∀ j, j < l.length * sz → x.w.cell? ⟨b, o + j, none⟩ = some (vals j)) ∧
      ∀ (i k : Nat) (e : List C) (c : C), l[i]? = some e → e[k]? = some c → Rep x.w (x.sh old) c (vals (i * sz + k))

theorem rowAt_inv {h : Heap} {id n e s : Nat} {o f : Bool} {l : List (List C)} (hr : rowAt h id n = some (e, s, o, f, l)) : getO h id = some (.row e s o f l) ∧ l.length = n := by
  unfold rowAt at hr
  split at hr
  · rename_i e' s' o' f' l' heq
    split at hr
    · rename_i hl
      injection hr with hr
      injection hr with h1 hr
      injection hr with h2 hr
      injection hr with h3 hr
      injection hr with h4 h5
      subst h1 h2 h3 h4 h5
      exact ⟨heq, hl⟩
    · simp at hr
  · simp at hr

theorem row_elems {h : Heap} (hi : Inv G x h) {id e s : Nat} {o f : Bool} {l : List (List C)} (hg : getO h id = some (.row e s o f l)) : ElemsAt x o l (some ⟨x.φ id, 0, none⟩) (x.κ id) := by
  obtain ⟨arr, h1, h2, h3, h4, h5, h6, h7, h8, h9⟩ := hi.obj id _ hg
  have hle : l.length * s ≤ arr.size := by rw [h2]; exact Nat.mul_le_mul_right _ h3
  refine ⟨h3, fun _ => ⟨s, x.φ id, 0, fun j => arr.getD j undef, rfl, h6, fun j hj => ?_, fun i k e c hi' hc => ?_⟩⟩
  · rw [cell_of_row x.w _ _ _ _ _ h1, Nat.zero_add]
    have : j < arr.size := by omega
    simp [Array.getD, this]
  · obtain ⟨v, hv, hr⟩ := h8 i k e c hi' hc
    simp [Array.getD_eq_getD_getElem?, hv, hr]

theorem elems_rel {h : Heap} (hi : Inv G x h) {v : AV} {u : Value} (hr : RelV x h v u) {old : Bool} {l : List (List C)} (he : elems h v = some (old, l)) :
    ∃ base cap, u = .slice base l.length cap ∧ ElemsAt x old l base cap := by
  cases v <;> simp only [elems] at he <;> try (simp at he; done)
  · injection he with he
    injection he with h1 h2
    subst h1 h2
    cases hr with
    | sl old l v hr =>
      obtain ⟨base, cap, hv, hcap, hne⟩ := hr.slice_inv
      refine ⟨base, cap, hv, hcap, fun hl => ?_⟩
      obtain ⟨sz, b, o, vals, h1, h2, h3, h4⟩ := hne hl
      exact ⟨sz, b, o, vals, h1, h2, fun j hj => (h3 j hj).2, h4⟩
  · injection he with he
    injection he with h1 h2
    subst h1 h2
    exact ⟨none, 0, hr.nilsl_inv, Nat.zero_le _, fun hl => absurd rfl hl⟩
  · injection he with he
    injection he with h1 h2
    subst h1 h2
    cases hr with
    | esl a0 cap => exact ⟨some a0, cap, rfl, Nat.zero_le _, fun hl => absurd rfl hl⟩
  · rename_i id n
    split at he
    · rename_i e s o f l' hrow
      injection he with he
      injection he with h1 h2
      subst h1 h2
      obtain ⟨hg, hl⟩ := rowAt_inv hrow
      cases hr with
      | row id n v hv hle hr =>
        have := hr _ _ _ _ _ hg hl
        subst hl
        exact ⟨_, _, this, row_elems hi hg⟩
    · simp at he

theorem len_ok {o : Oper} {y : Operand} {t : TypeId} {str : Bool} (ho : o.op = .call { callee := .builtin .len, args := #[y], argTypes := #[t] }) (h1 : if str then P.underlying t = some .string else ∃ e, P.underlying t = some (.slice e)) (hs : RelS G x st a)
    {v : AV} (he : evR G st.t st.h (.len str (trO y)) = some v) : OpOk P o a G x st.h v st.h := by
  have hr := hs.opd y
  simp only [evR] at he
  cases str with
  | false =>
    simp only [Bool.false_eq_true, if_false] at he h1
    obtain ⟨e, h1⟩ := h1
    split at he
    · rename_i old l hel
      injection he with he
      subst he
      obtain ⟨base, cap, hu, _⟩ := elems_rel hs.inv hr hel
      refine OpOk.val hs.inv (u := .int .i64 (l.length : Int)) ?_ (.s _) (by simp [AV.refs])
      simp [execOp, ho, resolve, invoke, builtin, Builtin.len_, hu, underlying, h1, goInt]
    · simp at he
  | true =>
    simp only [if_true] at he h1
    split at he
    · rename_i s hq
      rw [hq] at hr
      injection he with he
      subst he
      refine OpOk.val hs.inv (u := .int .i64 (s.size : Int)) ?_ (.s _) (by simp [AV.refs])
      simp [execOp, ho, resolve, invoke, builtin, Builtin.len_, hr.s_inv, underlying, h1, goInt]
    · simp at he

theorem cells_bytes {l : List (List C)} {bs : List UInt8} (hb : bytesOf l = some bs) : ∃ ns : List Int, l = (ns.map fun n => [C.sc (.int .u8 n)]) ∧ bs = ns.map fun n => UInt8.ofNat n.toNat := by
  induction l generalizing bs with
  | nil => simp [bytesOf] at hb; exact ⟨[], rfl, by simp [hb]⟩
  | cons e r ih =>
    unfold bytesOf at hb
    split at hb
    · simp_all
    · rename_i n r' heq
      injection heq with h1 h2
      subst h1 h2
      split at hb
      · rename_i bs' hbs
        injection hb with hb
        subst hb
        obtain ⟨ns, h1, h2⟩ := ih hbs
        exact ⟨n :: ns, by simp [← h1], by simp [← h2]⟩
      · simp at hb
    · simp at hb

theorem fold_bytes (ns : List Int) : ∀ s : ByteArray, ns.foldl (fun r n => r.push (UInt8.ofNat n.toNat)) s = ⟨s.data ++ (ns.map fun n => UInt8.ofNat n.toNat).toArray⟩ := by
  induction ns with
  | nil => intro s; simp
  | cons n ns ih =>
    intro s
    rw [List.foldl_cons, ih]
    congr 1
    simp [ByteArray.push]

theorem b2s_ok {o : Oper} {y : Operand} {src dst e : TypeId} (ho : o.op = .convert src dst y) (h1 : P.underlying src = some (.slice e)) (h2 : P.underlying e = some (.int .u8)) (h3 : P.underlying dst = some .string) (hs : RelS G x st a)
    {v : AV} (he : evR G st.t st.h (.b2s (trO y)) = some v) : OpOk P o a G x st.h v st.h := by
  have hr := hs.opd y
  simp only [evR] at he
  split at he
  · rename_i old l hel
    split at he
    · rename_i bs hb
      injection he with he
      subst he
      obtain ⟨base, cap, hu, hcap, hat⟩ := elems_rel hs.inv hr hel
      obtain ⟨ns, hl, hbs⟩ := cells_bytes hb
      refine OpOk.val hs.inv (u := .string ⟨bs.toArray⟩) ?_ (.s _) (by simp [AV.refs])
      simp only [execOp, ho, hu, Sem.run_bind, run_convert_bytes_string x.w src dst e _ _ _ h1 h2 h3]
      by_cases hne : l = []
      · have hb0 : bs = [] := by
          rw [hne] at hb
          simpa [bytesOf] using hb.symm
        subst hb0
        rw [hne]
        cases base with
        | none => simp [Conv.bytesToString]; rfl
        | some p => simp [Conv.bytesToString, loadCells, loadCellsFrom]; rfl
      · obtain ⟨sz, b, o', vals, rfl, hsz, hc, hrr⟩ := hat hne
        have hs1 : sz = 1 := by
          obtain ⟨q, r, rfl⟩ := List.exists_cons_of_ne_nil hne
          rw [← hsz q (by simp)]
          cases ns with
          | nil => simp at hl
          | cons n ns => simp at hl; rw [hl.1]; rfl
        subst hs1
        have hvals : ∀ j (hj : j < ns.length), vals j = .int .u8 ns[j] := fun j hj => by
          have hj' : l[j]? = some [C.sc (.int .u8 ns[j])] := by rw [hl]; simp [hj]
          have := hrr j 0 _ _ hj' rfl
          simp only [Nat.mul_one, Nat.add_zero] at this
          generalize vals j = q at this
          cases this
          rfl
        have hlen : l.length = ns.length := by rw [hl]; simp
        have hload : (loadCells ⟨b, o', none⟩ l.length).run P x.w = .ok (ns.map (Value.int .u8)).toArray x.w := by
          rw [run_loadCells x.w ⟨b, o', none⟩ l.length vals (fun j hj => by rw [Addr.add_lit]; exact hc j (by omega))]
          congr 2
          apply List.ext_getElem
          · simp [hlen]
          · intro j h4 h5
            simp at h4 h5
            simp [hvals j h5]
        rw [run_bytesToString x.w ⟨b, o', none⟩ l.length cap ns hload, fold_bytes]
        simp [hbs]
    · simp at he
  · simp at he

theorem run_loadBytes (w : World) (b : Nat) : ∀ (ns : List Int) (o : Nat) (acc : ByteArray), (∀ j (hj : j < ns.length), w.cell? ⟨b, o + j, none⟩ = some (.int .u8 ns[j])) →
    (Extern.Bytes.loadBytes ⟨b, o, none⟩ ns.length acc).run P w = .ok (ns.foldl (fun r n => r.push (UInt8.ofNat n.toNat)) acc) w
  | [], o, acc, _ => rfl
  | n :: ns, o, acc, h => by
    have h0 := h 0 (by simp)
    simp only [Nat.add_zero, List.getElem_cons_zero] at h0
    have ih := run_loadBytes w b ns (o + 1) (acc.push (UInt8.ofNat n.toNat)) fun j hj => by
      have := h (j + 1) (by simpa using hj)
      rw [show o + 1 + j = o + (j + 1) by omega]
      simpa using this
    simp only [List.length_cons, Extern.Bytes.loadBytes, Sem.run_bind, run_load, h0, Result.andThen_ok, List.foldl_cons]
    rw [show (⟨b, o, none⟩ : Addr).add 1 = ⟨b, o + 1, none⟩ by rw [Addr.add_lit]]
    exact ih

/-- The bytes that a slice bears, as the model's own functions read them. -/
theorem bytes_run {l : List (List C)} {bs : List UInt8} (hb : bytesOf l = some bs) {old : Bool} {base : Option Addr} {cap : Nat} (hat : ElemsAt x old l base cap) : (Extern.Bytes.bytesOf (.slice base l.length cap)).run P x.w = .ok ⟨bs.toArray⟩ x.w := by
  obtain ⟨ns, hl, hbs⟩ := cells_bytes hb
  by_cases hne : l = []
  · have hb0 : bs = [] := by
      rw [hne] at hb
      simpa [bytesOf] using hb.symm
    subst hb0
    rw [hne]
    cases base with
    | none => rfl
    | some p => rfl
  · obtain ⟨sz, b, o', vals, rfl, hsz, hc, hrr⟩ := hat.2 hne
    have hs1 : sz = 1 := by
      obtain ⟨q, r, rfl⟩ := List.exists_cons_of_ne_nil hne
      rw [← hsz q (by simp)]
      cases ns with
      | nil => simp at hl
      | cons n ns => simp at hl; rw [hl.1]; rfl
    subst hs1
    have hlen : l.length = ns.length := by rw [hl]; simp
    have hvals : ∀ j (hj : j < ns.length), vals j = .int .u8 ns[j] := fun j hj => by
      have hj' : l[j]? = some [C.sc (.int .u8 ns[j])] := by rw [hl]; simp [hj]
      have := hrr j 0 _ _ hj' rfl
      simp only [Nat.mul_one, Nat.add_zero] at this
      generalize vals j = q at this
      cases this
      rfl
    have := run_loadBytes (P := P) x.w b ns o' .empty fun j hj => by rw [← hvals j hj]; exact hc j (by omega)
    show (Extern.Bytes.loadBytes ⟨b, o', none⟩ l.length .empty).run P x.w = _
    rw [hlen, this, fold_bytes]
    simp [hbs]

/-- Is it bytes' comparison? -/
def isCmp (P : Program) (f : FuncId) : Bool := match P.funcs[f]? with
  | some fn => fn.body.isNone && ((fn.name == "internal/bytealg.Compare") && (Extern.allNextRows.lookup fn.origin).isNone)
  | none => false
theorem isCmp_ok {P : Program} {f : FuncId} (h : isCmp P f = true) : ∃ fn, P.funcs[f]? = some fn ∧ (fn.name == "runtime.NumGoroutine") = false ∧ fn.body.isNone = true ∧ Extern.findNext fn = none ∧ Extern.find fn = some Extern.BytealgCompare.compare := by
  unfold isCmp at h
  split at h
  · rename_i fn hf
    simp only [Bool.and_eq_true, beq_iff_eq] at h
    obtain ⟨h1, h2, h3⟩ := h
    have n1 : Extern.allNextRows.lookup "internal/bytealg.Compare" = none := by kernel_rfl
    have n2 : Extern.allGenericRows.lookup "internal/bytealg.Compare" = none := by kernel_rfl
    have n3 : Extern.allTypedRows.lookup "internal/bytealg.Compare" = none := by kernel_rfl
    have n4 : Extern.allRows.lookup "internal/bytealg.Compare" = some Extern.BytealgCompare.compare := by kernel_rfl
    refine ⟨fn, hf, by rw [h2]; rfl, h1, ?_, ?_⟩
    · simp only [Extern.findNext, h2, n1]
      rw [Option.isNone_iff_eq_none] at h3
      rw [h3]
      rfl
    · simp only [Extern.find, h2, n2, n3, n4]
      rfl
  · simp at h

theorem cmpb_ok {o : Oper} {c : Call} {f : FuncId} {y z : Operand} (ho : o.op = .call c) (hc : c.callee = .value (.func f)) (hargs : c.args.toList = [y, z]) {fn : Func} (hf : P.funcs[f]? = some fn) (hn : (fn.name == "runtime.NumGoroutine") = false) (hb : fn.body.isNone = true)
    (hnx : Extern.findNext fn = none) (he2 : Extern.find fn = some Extern.BytealgCompare.compare) (hs : RelS G x st a) {v : AV} (he : evR G st.t st.h (.cmpb (trO y) (trO z)) = some v) : OpOk P o a G x st.h v st.h := by
  have hry := hs.opd y
  have hrz := hs.opd z
  simp only [evR] at he
  split at he
  · rename_i o1 l o2 m hl hm
    split at he
    · rename_i as bs ha hbs
      injection he with he
      subst he
      obtain ⟨base1, cap1, hu1, hat1⟩ := elems_rel hs.inv hry hl
      obtain ⟨base2, cap2, hu2, hat2⟩ := elems_rel hs.inv hrz hm
      refine OpOk.val hs.inv (u := .int .i64 (Lib.compareBytes as bs)) ?_ (.s _) (by simp [AV.refs])
      have e1 : c.args.map a.eval = #[a.eval y, a.eval z] := by
        apply Array.ext'
        simp [hargs]
      simp only [execOp, ho, resolve, hc, Act.eval, Deferred.ofValue, invoke, Sem.run_bind, Sem.run_pure, Result.andThen_ok]
      have e2 : (c.args.map fun x => a.eval x) ++ #[] = #[a.eval y, a.eval z] := by simpa using e1
      first
        | rw [e2]
        | rw [e1]
        | skip
      rw [run_callFunc_extern hf hn hb hnx he2]
      have hrun : (Extern.BytealgCompare.compare #[a.eval y, a.eval z]).run P x.w = .ok (.int .i64 (Lib.compareBytes as bs)) x.w := by
        change Sem.run P (do pure (goInt (Extern.BytealgCompare.cmp (← Extern.Bytes.bytesOf (a.eval y)) (← Extern.Bytes.bytesOf (a.eval z))))) x.w = _
        rw [hu1, hu2]
        simp only [Sem.run_bind, bytes_run ha hat1, bytes_run hbs hat2, Result.andThen_ok, Sem.run_pure, Lib.cmp_eq]
        rfl
      simp [hrun]
    · simp at he
  · simp at he

theorem ia_ok {o : Oper} {y z : Operand} {t e : TypeId} {sz : Nat} (ho : o.op = .indexAddr t y z) (h1 : P.underlying t = some (.slice e)) (h3 : TSize P e sz) (hs : RelS G x st a) {v : AV}
    (he : evR G st.t st.h (.ia sz (trO y) (trO z)) = some v) : OpOk P o a G x st.h v st.h := by
  have hr := hs.opd y
  have hl := hs.opdRefs y
  have hrz := hs.opd z
  have hrun : ∀ p n cap k i, a.eval y = .slice (some p) n cap → a.eval z = .int k i → (0 ≤ i ∧ i < (n : Int)) → (execOp a.eval o).run P x.w = .ok (.value (.pointer (some (p.add (i.toNat * sz))))) x.w := fun p n cap k i hp hi hin => by
    simp only [execOp, ho, Instr.indexAt, Sem.run_bind, hi, asIntOf, Sem.run_pure, Result.andThen_ok, run_underlying h1, hp]
    rw [if_pos hin]
    simp [sizeOf_run h3]
  simp only [evR] at he
  split at he
  · rename_i old l k i hq hz
    rw [hq] at hr hl
    rw [hz] at hrz
    split at he
    · rename_i hin
      split at he
      · rename_i el hel
        split at he
        · rename_i hsz
          injection he with he
          subst he
          cases hr with
          | sl old l u hr =>
            obtain ⟨base, cap, hu, hcap, hne⟩ := hr.slice_inv
            have hlne : l ≠ [] := by rintro rfl; simp at hel
            obtain ⟨sz', b, o', vals, rfl, hs', hc, hrr⟩ := hne hlne
            have hmem := List.mem_of_getElem? hel
            have hszeq : sz' = sz := by rw [← hs' el hmem, szOk_iff.1 hsz el hmem]
            subst hszeq
            refine OpOk.val hs.inv (hrun _ _ _ k i hu hrz.s_inv hin) ?_ (by simp [AV.refs])
            rw [Addr.add_lit]
            have hlt : i.toNat < l.length := by omega
            have hm : (i.toNat + 1) * sz' ≤ l.length * sz' := Nat.mul_le_mul_right _ hlt
            rw [Nat.add_mul, Nat.one_mul] at hm
            refine .daddr old el b (o' + i.toNat * sz') (fun j => vals (i.toNat * sz' + j)) (fun j hj => ?_) fun j c hj => hrr i.toNat j el c hel hj
            rw [hs' el hmem] at hj
            rw [Nat.add_assoc]
            exact hc (i.toNat * sz' + j) (by omega)
        · simp at he
      · simp at he
    · simp at he
  · rename_i id n k i hq hz
    rw [hq] at hr hl
    rw [hz] at hrz
    split at he
    · rename_i e' s' o' f' l hrow
      split at he
      · rename_i hin
        obtain ⟨rfl, hin⟩ := hin
        injection he with he
        subst he
        obtain ⟨hg, hlen⟩ := rowAt_inv hrow
        cases hr with
        | row id n u hv hle hr =>
          have hu := hr _ _ _ _ _ hg hlen
          refine OpOk.val hs.inv (hrun _ _ _ k i hu hrz.s_inv (by omega)) ?_ hl
          refine .eptr id n i.toNat 0 _ trivial hle fun e s o f l2 hg2 _ => ?_
          rw [hg] at hg2
          injection hg2 with hg2
          injection hg2 with _ h5
          subst h5
          rw [Addr.add_lit]
          simp
      · simp at he
    · simp at he
  · simp at he

/-- Cells in a row are loaded as one value. -/
theorem loadVar_run {t : TypeId} {ag : Bool} {sz b o n : Nat} {vals : Nat → Value} {w : World} (h1 : TAgg P t ag) (h2 : TSize P t sz) (hn : (if ag then sz else 1) ≤ n) (hc : ∀ j, j < n → w.cell? ⟨b, o + j, none⟩ = some (vals j)) :
    (loadVar t ⟨b, o, none⟩).run P w = .ok (if ag then .agg ((List.range sz).map vals).toArray else vals 0) w := by
  cases ag
  · have h0 := hc 0 (by simp at hn; omega)
    simp only [Nat.add_zero] at h0
    simp [loadVar, isAgg_run h1, h0]
  · have := run_loadCells (P := P) w ⟨b, o, none⟩ sz vals (fun j hj => by rw [Addr.add_lit]; exact hc j (by simp at hn; omega))
    simp [loadVar, isAgg_run h1, sizeOf_run h2, this]

theorem load_data {t : TypeId} {ag old : Bool} {sz b o : Nat} {l : List C} {vals : Nat → Value} {h : Heap} {v : AV} (h1 : TAgg P t ag) (h2 : TSize P t sz) (hc : ∀ j, j < l.length → x.w.cell? ⟨b, o + j, none⟩ = some (vals j))
    (hr : ∀ (j : Nat) (c : C), l[j]? = some c → Rep x.w (x.sh old) c (vals j)) (hl : sz ≤ l.length) (he : ofCs old ag (l.take sz) = some v) :
    ∃ u, (loadVar t ⟨b, o, none⟩).run P x.w = .ok u x.w ∧ RelV x h v u ∧ v.refs = [] := by
  unfold ofCs at he
  cases ag
  · simp only [Bool.false_eq_true, if_false] at he
    split at he
    · rename_i c hc1
      injection he with he
      subst he
      have h0 : l[0]? = some c := by
        have := congrArg (fun q : List C => q[0]?) hc1
        simp only [List.getElem?_take, List.getElem?_cons_zero] at this
        split at this
        · exact this
        · simp at this
      have hpos : 0 < l.length := (List.getElem?_eq_some_iff.1 h0).1
      have := loadVar_run (P := P) (n := l.length) h1 h2 (by simp; omega) hc
      exact ⟨vals 0, by simpa using this, (hr 0 c h0).ofC, refs_ofC old c⟩
    · simp at he
  · simp only [if_true, Option.some.injEq] at he
    subst he
    have := loadVar_run (P := P) (n := l.length) h1 h2 (by simpa using hl) hc
    refine ⟨_, by simpa using this, ?_, ?_⟩
    · refine .agg _ _ (by simp; omega) fun i b v h3 h4 => ?_
      simp only [List.getElem?_map, List.getElem?_take, Option.map_eq_some_iff] at h3 h4
      obtain ⟨c, hc3, rfl⟩ := h3
      obtain ⟨j, hj, rfl⟩ := h4
      split at hc3
      · simp only [List.getElem?_eq_some_iff, List.length_range, List.getElem_range] at hj
        obtain ⟨_, rfl⟩ := hj
        exact (hr _ c hc3).ofC
      · simp at hc3
    · simp only [AV.refs]
      exact refsL_nil fun b hb => by
        obtain ⟨c, _, rfl⟩ := List.mem_map.1 hb
        exact refs_ofC old c

theorem load_val {y : Operand} {t : TypeId} {ag : Bool} {sz : Nat} (h1 : TAgg P t ag) (h2 : TSize P t sz) (hs : RelS G x st a) {v : AV}
    (he : evR G st.t st.h (.load ag sz (trO y)) = some v) : ∃ p u, a.eval y = .pointer (some p) ∧ (loadVar t p).run P x.w = .ok u x.w ∧ RelV x st.h v u ∧ ∀ id ∈ v.refs, (getO st.h id).isSome := by
  have hr := hs.opd y
  simp only [evR] at he
  split at he
  · rename_i id off hq
    rw [hq] at hr
    split at he
    · rename_i cells hg
      split at he
      · rename_i hle
        obtain ⟨arr, e, hb, hsz, hrel⟩ := hs.inv.obj id _ hg
        cases hr with
        | ptr id off u hv hr =>
          have hu := hr cells hg
          have hc : ∀ j, j < arr.size - off → x.w.cell? ⟨x.φ id, off + j, none⟩ = some (arr.getD (off + j) undef) := fun j hj => by
            rw [cell_of_row x.w _ _ _ _ _ hb]
            have : off + j < arr.size := by omega
            simp [Array.getD, this]
          have hat : ∀ (i : Nat) (b : AV), cells[off + i]? = some b → RelV x st.h b (arr.getD (off + i) undef) := fun i b hb' => by
            obtain ⟨v, hv', _, hr'⟩ := hrel _ _ hb'
            simpa [Array.getD_eq_getD_getElem?, hv'] using hr'
          cases ag
          · simp only [Bool.false_eq_true, if_false] at he
            split at he
            · rename_i hsz1
              subst hsz1
              have := loadVar_run (P := P) (n := arr.size - off) h1 h2 (by simp; omega) hc
              refine ⟨_, _, hu, by simpa using this, ?_, fun id' hid => hs.inv.live id _ hg id' (mem_refsL he hid)⟩
              have := hat 0 v (by simpa using he)
              simpa using this
            · simp at he
          · simp only [if_true, Option.some.injEq] at he
            subst he
            have := loadVar_run (P := P) (n := arr.size - off) h1 h2 (by simp; omega) hc
            refine ⟨_, _, hu, by simpa using this, ?_, fun id' hid => ?_⟩
            · refine .agg _ _ (by simp; omega) fun i b v h3 h4 => ?_
              rw [List.getElem?_take] at h3
              split at h3
              · rw [List.getElem?_drop] at h3
                simp only [List.getElem?_map, Option.map_eq_some_iff] at h4
                obtain ⟨j, hj, rfl⟩ := h4
                simp only [List.getElem?_eq_some_iff, List.length_range, List.getElem_range] at hj
                obtain ⟨_, rfl⟩ := hj
                simpa [Array.getD_eq_getD_getElem?] using hat _ _ h3
              · simp at h3
            · simp only [AV.refs] at hid
              obtain ⟨i, b, h3, h4⟩ := mem_refsL_iff.1 hid
              rw [List.getElem?_take] at h3
              split at h3
              · rw [List.getElem?_drop] at h3
                exact hs.inv.live id _ hg id' (mem_refsL h3 h4)
              · simp at h3
      · simp at he
    · simp at he
  · rename_i id n i k hq
    rw [hq] at hr
    split at he
    · rename_i e s old f l hrow
      obtain ⟨hg, hlen⟩ := rowAt_inv hrow
      split at he
      · rename_i el hel
        split at he
        · rename_i hle
          have hne : l ≠ [] := by rintro rfl; simp at hel
          obtain ⟨arr, hb, hsz, hcap, _, hpos, h6, h7, h8, _⟩ := hs.inv.obj id _ hg
          have hlt : i < l.length := (List.getElem?_eq_some_iff.1 hel).1
          have hm : (i + 1) * s ≤ arr.size := by
            rw [hsz]
            exact Nat.mul_le_mul_right _ (by omega)
          rw [Nat.add_mul, Nat.one_mul] at hm
          have hels := h6 el (List.mem_of_getElem? hel)
          cases hr with
          | eptr id n i k u hv _ hr =>
            have hu := hr _ _ _ _ _ hg hlen
            obtain ⟨u', hu1, hu2, hu3⟩ := load_data (P := P) (x := x) (h := st.h) (old := old) (l := el.drop k) (b := x.φ id) (o := i * s + k) (vals := fun j => arr.getD (i * s + k + j) undef) h1 h2 (fun j hj => by
                rw [cell_of_row x.w _ _ _ _ _ hb]
                simp at hj
                have : i * s + k + j < arr.size := by omega
                simp [Array.getD, this]) (fun j c hj => by
                rw [List.getElem?_drop] at hj
                obtain ⟨q, hq1, hq2⟩ := h8 i (k + j) el c hel hj
                rw [← Nat.add_assoc] at hq1
                simpa [Array.getD_eq_getD_getElem?, hq1] using hq2) (by simp; omega) he
            exact ⟨_, _, hu, hu1, hu2, by simp [hu3]⟩
        · simp at he
      · simp at he
    · simp at he
  · rename_i old l hq
    rw [hq] at hr
    split at he
    · rename_i hle
      generalize hu : a.eval y = u at hr
      cases hr with
      | daddr old l b o' vals hc hr =>
        obtain ⟨u', hu1, hu2, hu3⟩ := load_data (P := P) (h := st.h) h1 h2 (fun j hj => (hc j hj).2) hr hle he
        exact ⟨_, _, rfl, hu1, hu2, by simp [hu3]⟩
    · simp at he
  · simp at he

theorem load_ok {o : Oper} {y : Operand} {t : TypeId} {ag : Bool} {sz : Nat} (ho : o.op = .load t y) (h1 : TAgg P t ag) (h2 : TSize P t sz) (hs : RelS G x st a) {v : AV}
    (he : evR G st.t st.h (.load ag sz (trO y)) = some v) : OpOk P o a G x st.h v st.h := by
  obtain ⟨p, u, hp, hu, hr, hl⟩ := load_val (P := P) h1 h2 hs he
  exact OpOk.val hs.inv (by simp [execOp, ho, Instr.loadAt, hp, Instr.sureAddr, hu]) hr hl

end
end Go.Ev
