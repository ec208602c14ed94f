/-
  More operations that look at their operands alone.
-/
import Derived.Test.YtebiajdkgpcidaaEvOps
set_option linter.unusedSimpArgs false
set_option linter.unusedVariables false
namespace Go.Ev
section
variable {P : Program} {G : Cf} {x : Cx} {st : St} {a : Act}

theorem bound_run (hs : RelS G x st a) {y n r : Nat} {q : Operand} {code : BoundsCode} {w : World} (hy : y ≤ n) (hb : bound G st.t y (trO q) = some r) : r ≤ y ∧ (Instr.sliceBound (a.eval q) n code).run P w = .ok r w := by
  have hq := hs.opd q
  unfold bound at hb
  split at hb
  · rename_i k i heq
    rw [heq] at hq
    split at hb
    · rename_i hi
      injection hb with hb
      subst hb
      refine ⟨by omega, ?_⟩
      rw [hq.s_inv]
      simp only [Instr.sliceBound, asIntOf, Sem.run_bind, Sem.run_pure, Result.andThen_ok]
      rw [if_pos ⟨hi.1, by omega⟩]
      rfl
    · simp at hb
  · simp at hb

theorem bounds_run (hs : RelS G x st a) {n cap l h : Nat} {lo hi mx : Option Operand} {is : Bool} {w : World} (hn : n ≤ cap) (hb : bounds G st.t n (lo.map trO) (hi.map trO) (mx.map trO) = some (l, h)) :
    ∃ m, l ≤ h ∧ h ≤ n ∧ h ≤ m ∧ m ≤ cap ∧ (Instr.sliceBounds is n cap (lo.map a.eval) (hi.map a.eval) (mx.map a.eval)).run P w = .ok (l, h, m) w := by
  have low : ∀ h', (match lo.map trO with
      | none => some (0, h')
      | some x => match bound G st.t h' x with
        | some l => some (l, h')
        | none => none) = some (l, h) → h' = h ∧ l ≤ h ∧ ∀ (code : BoundsCode) (m : Nat), ((match lo.map a.eval with
      | some v => do
        let l ← Instr.sliceBound v h' code
        pure (l, h', m)
      | none => do
        let l ← pure 0
        pure (l, h', m) : Sem (Nat × Nat × Nat)).run P w = .ok (l, h', m) w) := by
    intro h' hl
    cases lo with
    | none => simp at hl; obtain ⟨rfl, rfl⟩ := hl; exact ⟨rfl, by omega, fun _ _ => rfl⟩
    | some q =>
      simp only [Option.map_some] at hl
      split at hl
      · rename_i r hr
        injection hl with hl
        injection hl with h1 h2
        subst h1 h2
        exact ⟨rfl, (bound_run (P := P) (w := w) (code := .sliceB) hs (Nat.le_refl _) hr).1, fun code m => by simp [(bound_run (P := P) (w := w) (code := code) hs (Nat.le_refl _) hr).2]⟩
      · simp at hl
  unfold bounds at hb
  cases mx with
  | none =>
    cases hi with
    | none =>
      simp only [Option.map_none] at hb
      obtain ⟨rfl, h2, h3⟩ := low n hb
      refine ⟨cap, h2, Nat.le_refl _, hn, Nat.le_refl _, ?_⟩
      simp only [Instr.sliceBounds, Option.map_none, Sem.run_bind, Sem.run_pure, Result.andThen_ok, Option.isSome_none]
      exact h3 .sliceB cap
    | some q =>
      simp only [Option.map_none, Option.map_some] at hb
      split at hb
      · rename_i h' heq
        obtain ⟨h1, h2⟩ := bound_run (P := P) (w := w) (code := if is then .sliceAcap else .sliceAlen) hs hn heq
        obtain ⟨rfl, h3, h4⟩ := low h' hb
        refine ⟨cap, h3, h1, by omega, Nat.le_refl _, ?_⟩
        simp only [Instr.sliceBounds, Option.map_none, Option.map_some, Sem.run_bind, Sem.run_pure, Result.andThen_ok, Option.isSome_none, h2]
        exact h4 .sliceB cap
      · simp at hb
  | some p =>
    cases hi with
    | none => simp at hb
    | some q =>
      simp only [Option.map_some] at hb
      split at hb
      · rename_i h' heq
        split at heq
        · rename_i m hm
          obtain ⟨h1, h2⟩ := bound_run (P := P) (w := w) (code := if is then .slice3Acap else .slice3Alen) hs hn hm
          obtain ⟨h5, h6⟩ := bound_run (P := P) (w := w) (code := .slice3B) hs (Nat.le_refl _) heq
          obtain ⟨rfl, h3, h4⟩ := low h' hb
          refine ⟨m, h3, by omega, h5, by omega, ?_⟩
          simp only [Instr.sliceBounds, Option.map_some, Sem.run_bind, Result.andThen_ok, Option.isSome_some, h2, h6]
          exact h4 .slice3C m
        · simp at heq
      · simp at hb

theorem rep_cut {w : World} {S : Nat → Nat → Prop} {l : List (List C)} {sz n h m cap : Nat} {base : Option Addr} (hr : Rep w S (.sl l) (.slice base l.length cap)) (hsz : szOk sz l = true) (h1 : n ≤ h) (h2 : h ≤ l.length) (h3 : h ≤ m) (h4 : m ≤ cap) :
    Rep w S (.sl ((l.take h).drop n)) (.slice (if m = n then base else base.map (·.add (n * sz))) (h - n) (m - n)) := by
  have hlen : ((l.take h).drop n).length = h - n := by simp; omega
  by_cases he : h - n = 0
  · rw [he]
    have : (l.take h).drop n = [] := List.eq_nil_of_length_eq_zero (by omega)
    rw [this]
    refine .nil _ _ fun hb => ?_
    have : base = none := by
      split at hb
      · exact hb
      · simpa using hb
    subst this
    have := hr.slice_nil
    omega
  · obtain ⟨base', cap', hv, hcap, hne⟩ := hr.slice_inv
    injection hv with hb _ _
    subst hb
    have hl : l ≠ [] := by rintro rfl; simp at h2; omega
    obtain ⟨sz', b, o, vals, rfl, hs', hc, hrr⟩ := hne hl
    have hszeq : sz' = sz := by
      obtain ⟨e, r, rfl⟩ := List.exists_cons_of_ne_nil hl
      rw [← hs' e (by simp), szOk_iff.1 hsz e (by simp)]
    subst hszeq
    rw [if_neg (by omega)]
    simp only [Option.map_some, Addr.add_lit]
    rw [← hlen]
    refine .sl _ sz' b (o + n * sz') (m - n) (fun j => vals (n * sz' + j)) (by intro h0; rw [h0] at hlen; simp at hlen; omega) (fun e he' => hs' e (List.mem_of_mem_take (List.mem_of_mem_drop he'))) (by omega) (fun j hj => ?_) fun i k e c hi hk => ?_
    · rw [hlen] at hj
      have : (h - n) * sz' = h * sz' - n * sz' := Nat.sub_mul h n sz'
      have h4 : h * sz' ≤ l.length * sz' := Nat.mul_le_mul_right _ h2
      have := hc (n * sz' + j) (by omega)
      rw [Nat.add_assoc]
      exact this
    · rw [List.getElem?_drop] at hi
      have hi2 : l[n + i]? = some e := by
        rw [List.getElem?_take] at hi
        split at hi
        · exact hi
        · simp at hi
      have := hrr (n + i) k e c hi2 hk
      rw [Nat.add_mul, Nat.add_assoc] at this
      exact this

theorem slice_ok {o : Oper} {y : Operand} {t e : TypeId} {sz : Nat} {lo hi mx : Option Operand} (ho : o.op = .slice t y lo hi mx) (h1 : P.underlying t = some (.slice e)) (h2 : (P.info? e).map (·.size) = some sz) (hs : RelS G x st a) {v : AV} {al : List (Nat × Obj)} {F : FnEv}
    (he : evP G st.t F (.slice sz (trO y) (lo.map trO) (hi.map trO) (mx.map trO)) = some (v, al)) : al = [] ∧ OpOk P o a G x st.h v st.h := by
  have hr := hs.opd y
  obtain ⟨i, hi1, hi2⟩ := Option.map_eq_some_iff.1 h2
  have hsize : (sizeOf e).run P x.w = .ok sz x.w := by simp [sizeOf, typeInfo, hi1, hi2]
  have hrun : ∀ base n cap l h m, a.eval y = .slice base n cap → (Instr.sliceBounds true n cap (lo.map a.eval) (hi.map a.eval) (mx.map a.eval)).run P x.w = .ok (l, h, m) x.w →
      (execOp a.eval o).run P x.w = .ok (.value (.slice (if m = l then base else base.map (·.add (l * sz))) (h - l) (m - l))) x.w := fun base n cap l h m hv hb => by
    simp only [execOp, ho, Instr.sliceAt, Sem.run_bind, run_underlying h1, Result.andThen_ok, Instr.slice, hv, hb, hsize, Sem.run_pure]
  simp only [evP] at he
  split at he
  · rename_i old l hq
    rw [hq] at hr
    split at he
    · rename_i hsz
      split at he
      · rename_i b h hb
        injection he with he
        injection he with h3 h4
        subst h3 h4
        refine ⟨rfl, ?_⟩
        cases hr with
        | sl old l v hr =>
          obtain ⟨base, cap, hv, hcap, _⟩ := hr.slice_inv
          rw [hv] at hr
          obtain ⟨m, hb1, hb2, hb3, hb4, hb5⟩ := bounds_run (P := P) (is := true) (w := x.w) hs hcap hb
          exact OpOk.val hs.inv (hrun _ _ _ _ _ _ hv hb5) (.sl _ _ _ (rep_cut hr hsz hb1 hb2 hb3 hb4)) (by simp [AV.refs])
      · simp at he
    · simp at he
  · rename_i hq
    rw [hq] at hr
    split at he
    · rename_i p hb
      injection he with he
      injection he with h3 h4
      subst h3 h4
      refine ⟨rfl, ?_⟩
      obtain ⟨l, h⟩ := p
      obtain ⟨m, hb1, hb2, hb3, hb4, hb5⟩ := bounds_run (P := P) (is := true) (w := x.w) hs (cap := 0) (Nat.le_refl _) hb
      have hl : l = 0 := by omega
      have hh : h = 0 := by omega
      subst hl hh
      have hm : m = 0 := by omega
      subst hm
      refine OpOk.val hs.inv (hrun none 0 0 0 0 0 hr.nilsl_inv hb5) ?_ (by simp [AV.refs])
      simp
      exact .nilsl
    · simp at he
  · simp at he

theorem slices_ok {o : Oper} {y : Operand} {t : TypeId} {lo hi : Option Operand} (ho : o.op = .slice t y lo hi none) (h1 : P.underlying t = some .string) (hs : RelS G x st a) {v : AV} {al : List (Nat × Obj)} {F : FnEv}
    (he : evP G st.t F (.slices (trO y) (lo.map trO) (hi.map trO)) = some (v, al)) : al = [] ∧ OpOk P o a G x st.h v st.h := by
  have hr := hs.opd y
  simp only [evP] at he
  split at he
  · rename_i s hq
    rw [hq] at hr
    split at he
    · rename_i b h hb
      injection he with he
      injection he with h3 h4
      subst h3 h4
      refine ⟨rfl, ?_⟩
      obtain ⟨m, hb1, hb2, hb3, _, hb5⟩ := bounds_run (P := P) (is := false) (w := x.w) (mx := none) hs (Nat.le_refl s.size) hb
      refine OpOk.val hs.inv (u := .string (s.extract b h)) ?_ (.s _) (by simp [AV.refs])
      simp only [Option.map_none] at hb5
      simp only [execOp, ho, Instr.sliceAt, Sem.run_bind, run_underlying h1, Result.andThen_ok, Instr.slice, hr.s_inv, Option.map_none, Option.isSome_none, Bool.false_eq_true, if_false, hb5, Sem.run_pure]
    · simp at he
  · simp at he

/-! ### Parts -/
def TAgg (P : Program) (t : TypeId) (ag : Bool) : Prop := ∃ d, P.underlying t = some d ∧ ag = (match d with
  | .struct _ => true
  | .array _ _ => true
  | _ => false)

theorem isAgg_run {t : TypeId} {ag : Bool} {w : World} (h : TAgg P t ag) : (isAgg t).run P w = .ok ag w := by
  obtain ⟨d, h1, h2⟩ := h
  subst h2
  cases d <;> simp [isAgg, underlying, h1]

def TSize (P : Program) (t : TypeId) (n : Nat) : Prop := (P.info? t).map (·.size) = some n

theorem sizeOf_run {t : TypeId} {n : Nat} {w : World} (h : TSize P t n) : (sizeOf t).run P w = .ok n w := by
  obtain ⟨i, hi1, hi2⟩ := Option.map_eq_some_iff.1 h
  simp [sizeOf, typeInfo, hi1, hi2]

/-- A part of an aggregate, by the evaluator. -/
def partA (ag : Bool) (off sz : Nat) (l : List AV) : Option AV :=
  if ag then (if off + sz ≤ l.length then some (.agg ((l.drop off).take sz)) else none) else l[off]?

theorem part_run {t : TypeId} {ag : Bool} {sz off : Nat} {l : List AV} {vs : List Value} {v : AV} {h : Heap} {w : World} (h1 : TAgg P t ag) (h2 : TSize P t sz) (hl : l.length = vs.length)
    (hr : ∀ (i : Nat) (a : AV) (v : Value), l[i]? = some a → vs[i]? = some v → RelV x h a v) (he : partA ag off sz l = some v) :
    ∃ u, (part t vs.toArray off).run P w = .ok u w ∧ RelV x h v u := by
  unfold partA at he
  cases ag
  · simp only [Bool.false_eq_true, if_false] at he
    have hi : off < vs.length := hl ▸ (List.getElem?_eq_some_iff.1 he).1
    refine ⟨vs[off], ?_, hr off v _ he (List.getElem?_eq_getElem hi)⟩
    simp [part, isAgg_run h1, hi]
  · simp only [if_true] at he
    split at he
    · rename_i hle
      injection he with he
      subst he
      refine ⟨.agg ((vs.drop off).take sz).toArray, ?_, .agg _ _ (by simp; omega) fun i a v h3 h4 => ?_⟩
      · simp only [part, Sem.run_bind, isAgg_run h1, Result.andThen_ok, if_true, sizeOf_run h2, Sem.run_pure]
        congr 2
        apply Array.ext'
        simp [List.extract]
      · rw [List.getElem?_take] at h3 h4
        split at h3
        · rename_i hlt
          rw [if_pos hlt] at h4
          rw [List.getElem?_drop] at h3 h4
          exact hr _ _ _ h3 h4
        · simp at h3
    · simp at he

theorem partA_refs {ag : Bool} {off sz : Nat} {l : List AV} {v : AV} (he : partA ag off sz l = some v) : ∀ id ∈ v.refs, id ∈ refsL l := by
  unfold partA at he
  cases ag
  · simp only [Bool.false_eq_true, if_false] at he
    exact fun id hid => mem_refsL he hid
  · simp only [if_true] at he
    split at he
    · injection he with he
      subst he
      intro id hid
      simp only [AV.refs] at hid
      obtain ⟨i, b, h3, h4⟩ := mem_refsL_iff.1 hid
      rw [List.getElem?_take] at h3
      split at h3
      · rw [List.getElem?_drop] at h3
        exact mem_refsL h3 h4
      · simp at h3
    · simp at he

theorem fld_ok {o : Oper} {y : Operand} {t : TypeId} {i : Nat} {fs : Array Field} {f : Field} {ag : Bool} {sz : Nat} (ho : o.op = .field t y i) (h1 : P.underlying t = some (.struct fs)) (hf : fs[i]? = some f) (h2 : TAgg P f.type ag) (h3 : TSize P f.type sz)
    (hs : RelS G x st a) {v : AV} {l : List AV} (hq : rho G st.t (trO y) = .agg l) (he : partA ag f.offset sz l = some v) : OpOk P o a G x st.h v st.h := by
  have hr := hs.opd y
  have hl := hs.opdRefs y
  rw [hq] at hr hl
  obtain ⟨vs, hu, hlen, hrel⟩ := hr.agg_inv
  obtain ⟨u, hu1, hu2⟩ := part_run (P := P) (w := x.w) h2 h3 hlen hrel he
  refine OpOk.val hs.inv (u := u) ?_ hu2 fun id hid => hl id (by simp only [AV.refs]; exact partA_refs he id hid)
  simp only [execOp, ho, Instr.field, Sem.run_bind, run_underlying h1, Result.andThen_ok, hu]
  simp [hf, asAgg, hu1]

theorem ix_ok {o : Oper} {y z : Operand} {t e : TypeId} {n : Nat} {ag : Bool} {sz : Nat} (ho : o.op = .index t y z) (h1 : P.underlying t = some (.array n e)) (h2 : TAgg P e ag) (h3 : TSize P e sz)
    (hs : RelS G x st a) {v : AV} {l : List AV} {k : IntKind} {i : Int} (hq : rho G st.t (trO y) = .agg l) (hz : rho G st.t (trO z) = .s (.int k i)) (hi : 0 ≤ i ∧ i < n) (he : partA ag (i.toNat * sz) sz l = some v) : OpOk P o a G x st.h v st.h := by
  have hr := hs.opd y
  have hl := hs.opdRefs y
  have hrz := hs.opd z
  rw [hq] at hr hl
  rw [hz] at hrz
  obtain ⟨vs, hu, hlen, hrel⟩ := hr.agg_inv
  obtain ⟨u, hu1, hu2⟩ := part_run (P := P) (w := x.w) h2 h3 hlen hrel he
  refine OpOk.val hs.inv (u := u) ?_ hu2 fun id hid => hl id (by simp only [AV.refs]; exact partA_refs he id hid)
  simp only [execOp, ho, Instr.index, Sem.run_bind, hrz.s_inv, asIntOf, Sem.run_pure, run_underlying h1, Result.andThen_ok, hu]
  rw [if_pos hi]
  simp [sizeOf_run h3, hu1]

theorem ixs_ok {o : Oper} {y z : Operand} {t : TypeId} (ho : o.op = .index t y z) (h1 : P.underlying t = some .string) (hs : RelS G x st a) {s : ByteArray} {b : UInt8} {k : IntKind} {i : Int}
    (hq : rho G st.t (trO y) = .s (.string s)) (hz : rho G st.t (trO z) = .s (.int k i)) (hi : 0 ≤ i) (he : s.data.toList[i.toNat]? = some b) : OpOk P o a G x st.h (.s (.int .u8 (b.toNat : Int))) st.h := by
  have hr := hs.opd y
  have hrz := hs.opd z
  rw [hq] at hr
  rw [hz] at hrz
  refine OpOk.val hs.inv (u := .int .u8 (b.toNat : Int)) ?_ (.s _) (by simp [AV.refs])
  have hb : s[i.toNat]? = some b := by
    obtain ⟨h5, h6⟩ := List.getElem?_eq_some_iff.1 he
    have hsz : i.toNat < s.size := by simpa using h5
    rw [getElem?_pos s i.toNat hsz]
    exact congrArg some h6
  simp only [execOp, ho, Instr.index, Sem.run_bind, hrz.s_inv, asIntOf, Sem.run_pure, run_underlying h1, Result.andThen_ok, hr.s_inv, if_pos hi, hb]

theorem mx_ok {o : Oper} {y z : Operand} {ts : Array TypeId} (ho : o.op = .call { callee := .builtin .max, args := #[y, z], argTypes := ts }) (hs : RelS G x st a) {k k' : IntKind} {m n : Int}
    (hq : rho G st.t (trO y) = .s (.int k m)) (hz : rho G st.t (trO z) = .s (.int k' n)) : OpOk P o a G x st.h (.s (.int k (if n > m then n else m))) st.h := by
  have hr := hs.opd y
  have hrz := hs.opd z
  rw [hq] at hr
  rw [hz] at hrz
  refine OpOk.val hs.inv (u := .int k (if n > m then n else m)) ?_ (.s _) (by simp [AV.refs])
  simp [execOp, ho, resolve, invoke, builtin, Builtin.max_, Builtin.max2, hr.s_inv, hrz.s_inv]

theorem mn_ok {o : Oper} {y z : Operand} {ts : Array TypeId} (ho : o.op = .call { callee := .builtin .min, args := #[y, z], argTypes := ts }) (hs : RelS G x st a) {k k' : IntKind} {m n : Int}
    (hq : rho G st.t (trO y) = .s (.int k m)) (hz : rho G st.t (trO z) = .s (.int k' n)) : OpOk P o a G x st.h (.s (.int k (if n < m then n else m))) st.h := by
  have hr := hs.opd y
  have hrz := hs.opd z
  rw [hq] at hr
  rw [hz] at hrz
  refine OpOk.val hs.inv (u := .int k (if n < m then n else m)) ?_ (.s _) (by simp [AV.refs])
  simp [execOp, ho, resolve, invoke, builtin, Builtin.min_, Builtin.min2, hr.s_inv, hrz.s_inv]

theorem capn_ok {o : Oper} {y : Operand} {t e : TypeId} (ho : o.op = .call { callee := .builtin .cap, args := #[y], argTypes := #[t] }) (h1 : P.underlying t = some (.slice e)) (hs : RelS G x st a)
    (hq : rho G st.t (trO y) = .nilsl) : OpOk P o a G x st.h (.s (.int .i64 0)) st.h := by
  have hr := hs.opd y
  rw [hq] at hr
  refine OpOk.val hs.inv (u := .int .i64 0) ?_ (.s _) (by simp [AV.refs])
  simp [execOp, ho, resolve, invoke, builtin, Builtin.cap_, hr.nilsl_inv, underlying, h1, goInt]

theorem iap_ok {o : Oper} {y z : Operand} {t e : TypeId} {n sz : Nat} (ho : o.op = .indexAddr t y z) (h1 : P.underlying t = some (.array n e)) (h3 : TSize P e sz) (hs : RelS G x st a) {v : AV} {al : List (Nat × Obj)} {F : FnEv}
    (he : evP G st.t F (.iap n sz (trO y) (trO z)) = some (v, al)) : al = [] ∧ OpOk P o a G x st.h v st.h := by
  have hr := hs.opd y
  have hl := hs.opdRefs y
  have hrz := hs.opd z
  have hrun : ∀ p k i, a.eval y = .pointer (some p) → a.eval z = .int k i → (0 ≤ i ∧ i < (n : Int)) → (execOp a.eval o).run P x.w = .ok (.value (.pointer (some (p.add (i.toNat * sz))))) x.w := fun p k i hp hi hin => by
    simp only [execOp, ho, Instr.indexAt, Sem.run_bind, hi, asIntOf, Sem.run_pure, Result.andThen_ok, run_underlying h1, hp, Instr.sureAddr]
    rw [if_pos hin]
    simp [sizeOf_run h3]
  simp only [evP] at he
  split at he
  · rename_i id off k i hq hz
    rw [hq] at hr hl
    rw [hz] at hrz
    split at he
    · rename_i hin
      injection he with he
      injection he with h4 h5
      subst h4 h5
      refine ⟨rfl, ?_⟩
      cases hr with
      | ptr id off v hv hr =>
        obtain ⟨p, hp⟩ := isPtr_some hv
        refine OpOk.val hs.inv (hrun p k i hp hrz.s_inv hin) (.ptr _ _ _ trivial fun cs hc => ?_) hl
        have := hr cs hc
        rw [hp] at this
        injection this with this
        injection this with this
        rw [this, Addr.add_lit]
    · simp at he
  · rename_i old l k i hq hz
    rw [hq] at hr hl
    rw [hz] at hrz
    split at he
    · rename_i hin
      injection he with he
      injection he with h4 h5
      subst h4 h5
      refine ⟨rfl, ?_⟩
      obtain ⟨b, o', hu, hd⟩ := daddr_drop hr
      refine OpOk.val hs.inv (hrun _ k i hu hrz.s_inv hin) ?_ (by simp [AV.refs])
      rw [Addr.add_lit]
      exact hd _
    · simp at he
  · simp at he

end
end Go.Ev
