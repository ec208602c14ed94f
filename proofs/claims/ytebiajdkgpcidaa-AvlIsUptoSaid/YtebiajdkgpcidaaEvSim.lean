/-
  Rules by which a function's body is carried out by rewriting: what is still to be done is kept as a list of frames.
-/
import Derived.Test.YtebiajdkgpcidaaEvLaw
set_option linter.unusedSimpArgs false
set_option linter.unusedVariables false
namespace Go.Ev

/-- What is still to be done behind a statement. -/
inductive Fr where
  | ops (l : List Opr)
  | seq (b : IR)
  | block (id : Nat) (k : List Bool)
  | opsP (ps : List (Nat × Nat)) (fts : List (List Nat × List Nat)) (l : List Opr)

/-- Do footprints keep apart? -/
def okF (ps : List (Nat × Nat)) (l : List (List Nat × List Nat)) : Bool := ps.all fun p => disj (l.getD p.1 ([], [])) (l.getD p.2 ([], []))

section
variable {tab : Nat → Option Fn} {G : Cf}

/-- One round of a loop. -/
noncomputable def loopStep (tab : Nat → Option Fn) (G : Cf) (ns : Nat) (k : List Bool) (b : IR) (st : St) : Option (Ex × St) := loopEnd ns k (evIR G LoopL (Ev tab G) ns b st)
/-- A loop. -/
noncomputable def lp (tab : Nat → Option Fn) (G : Cf) (ns : Nat) (k : List Bool) (b : IR) (st : St) : Option (Ex × St) := LoopL (loopStep tab G ns k b) st
/-- A statement. -/
noncomputable def ex (tab : Nat → Option Fn) (G : Cf) (ns : Nat) (b : IR) (st : St) : Option (Ex × St) := evIR G LoopL (Ev tab G) ns b st

noncomputable def app (tab : Nat → Option Fn) (G : Cf) (ns : Nat) : List Fr → Option (Ex × St) → Option (Ex × St)
  | [], r => r
  | .seq b :: K, r => app tab G ns K (match r with
    | some (.normal, st) => ex tab G ns b st
    | r => r)
  | .block id k :: K, r => app tab G ns K (match r with
    | some (.exit i, st') => if i = id then some (.normal, st') else some (.exit i, st')
    | some (.normal, st') => some (.normal, clean ns k st')
    | r => r)
  | .ops l :: K, r => app tab G ns K (match r with
    | some (.normal, st) => (match evOps G (Ev tab G) l st with
      | some st' => some (.normal, st')
      | none => none)
    | r => r)
  | .opsP ps fts l :: K, r => app tab G ns K (match r with
    | some (.normal, st) => if okF ps (fts ++ feet G (Ev tab G) l st) = true then (match evOps G (Ev tab G) l st with
      | some st' => some (.normal, st')
      | none => none) else none
    | r => r)

variable {ns : Nat} {K : List Fr} {st : St}

theorem app_done {r : Ex × St} : app tab G ns [] (some r) = some r := rfl
theorem app_none : app tab G ns K none = none := by
  induction K with
  | nil => rfl
  | cons f K ih => cases f <;> exact ih
theorem app_ite {c : Prop} [Decidable c] {x y : Option (Ex × St)} : app tab G ns K (if c then x else y) = if c then app tab G ns K x else app tab G ns K y := by
  split <;> rfl
theorem app_seq {a b : IR} : app tab G ns K (ex tab G ns (.seq a b) st) = app tab G ns (.seq b :: K) (ex tab G ns a st) := rfl
theorem app_skip : app tab G ns K (ex tab G ns .skip st) = app tab G ns K (some (.normal, st)) := rfl
theorem app_reg0 {ops : List Opr} : app tab G ns K (ex tab G ns (.reg [] ops) st) = app tab G ns (.ops ops :: K) (some (.normal, st)) := rfl
theorem app_reg {p : Nat × Nat} {ps : List (Nat × Nat)} {ops : List Opr} : app tab G ns K (ex tab G ns (.reg (p :: ps) ops) st) = app tab G ns (.opsP (p :: ps) [] ops :: K) (some (.normal, st)) := rfl

def AV.isB : AV → Bool
  | .s (.bool _) => true
  | _ => false
def AV.b : AV → Bool
  | .s (.bool b) => b
  | _ => false
theorem isB_bool {b : Bool} : AV.isB (.s (.bool b)) = true := rfl
theorem b_bool {b : Bool} : AV.b (.s (.bool b)) = b := rfl

theorem app_cond {c : O} {a b : IR} : app tab G ns K (ex tab G ns (.cond c a b) st) = if (rho G st.t c).isB = true then (if (rho G st.t c).b = true then app tab G ns K (ex tab G ns a st) else app tab G ns K (ex tab G ns b st)) else none := by
  simp only [ex, evIR]
  split
  · rename_i h; simp only [h, isB_bool, b_bool, if_true]
  · rename_i h; simp only [h, isB_bool, b_bool, if_true]; rfl
  · rename_i h1 h2
    rw [if_neg, app_none]
    intro h
    cases hr : rho G st.t c <;> simp [hr, AV.isB] at h
    rename_i v
    cases v <;> simp at h
    rename_i bb
    cases bb
    · exact h2 hr
    · exact h1 hr
theorem set_same {t : List AV} {i : Nat} {b : Bool} (h : (t.getD i .undef).isB = true) (hb : (t.getD i .undef).b = b) : t.set i (.s (.bool b)) = t := by
  have hi : i < t.length := by
    rcases Nat.lt_or_ge i t.length with hlt | hge
    · exact hlt
    · simp [List.getD, List.getElem?_eq_none hge, AV.isB] at h
  have hv : t.getD i .undef = .s (.bool b) := by
    revert h hb
    generalize t.getD i .undef = v
    intro h hb
    cases v <;> simp [AV.isB] at h
    rename_i u
    cases u <;> simp at h
    simp only [AV.b] at hb
    rw [hb]
  refine List.ext_getElem? fun j => ?_
  rw [List.getElem?_set]
  split
  · rename_i hij
    subst hij
    simp only [List.getD, List.getElem?_eq_getElem hi, Option.getD_some] at hv
    simp [hi, hv]
  · rfl
/-- A condition whose value is then known. -/
theorem app_condT {i : Nat} {a b : IR} : app tab G ns K (ex tab G ns (.cond (.t i) a b) st) = if (st.t.getD i .undef).isB = true then (if (st.t.getD i .undef).b = true then app tab G ns K (ex tab G ns a ⟨st.t.set i (.s (.bool true)), st.h⟩) else app tab G ns K (ex tab G ns b ⟨st.t.set i (.s (.bool false)), st.h⟩)) else none := by
  rw [app_cond]
  show (if (st.t.getD i .undef).isB = true then _ else _) = _
  split
  · rename_i h
    show (if (st.t.getD i .undef).b = true then _ else _) = _
    split
    · rename_i hb
      rw [set_same h hb]
    · rename_i hb
      rw [set_same h (by simpa using hb)]
  · rfl
theorem app_block {id : Nat} {k : List Bool} {b : IR} : app tab G ns K (ex tab G ns (.block id k b) st) = app tab G ns (.block id k :: K) (ex tab G ns b st) := rfl
theorem app_loop {k : List Bool} {b : IR} : app tab G ns K (ex tab G ns (.loop k b) st) = app tab G ns K (lp tab G ns k b (clean ns k st)) := rfl
theorem app_exit {i : Nat} {k : List Bool} : app tab G ns K (ex tab G ns (.exit i k) st) = app tab G ns K (some (.exit i, clean ns k st)) := rfl
theorem app_ret {k : List Bool} : app tab G ns K (ex tab G ns (.ret k) st) = app tab G ns K (some (.ret, clean ns k st)) := rfl

theorem app_seq_n {b : IR} : app tab G ns (.seq b :: K) (some (.normal, st)) = app tab G ns K (ex tab G ns b st) := rfl
theorem app_seq_e {b : IR} {i : Nat} : app tab G ns (.seq b :: K) (some (.exit i, st)) = app tab G ns K (some (.exit i, st)) := rfl
theorem app_seq_r {b : IR} : app tab G ns (.seq b :: K) (some (.ret, st)) = app tab G ns K (some (.ret, st)) := rfl
theorem app_block_n {id : Nat} {k : List Bool} : app tab G ns (.block id k :: K) (some (.normal, st)) = app tab G ns K (some (.normal, clean ns k st)) := rfl
theorem app_block_e {id : Nat} {k : List Bool} {i : Nat} : app tab G ns (.block id k :: K) (some (.exit i, st)) = if i = id then app tab G ns K (some (.normal, st)) else app tab G ns K (some (.exit i, st)) := by
  simp only [app]
  split <;> rfl
theorem app_block_r {id : Nat} {k : List Bool} : app tab G ns (.block id k :: K) (some (.ret, st)) = app tab G ns K (some (.ret, st)) := rfl

/-! ### Operations -/
/-- What an operation leaves behind. -/
def opR (d : Option Nat) (t : List AV) : Option (AV × Heap) → Option (Ex × St)
  | some (v, h) => some (.normal, ⟨setD t d v, h⟩)
  | none => none
theorem opR_some {d : Option Nat} {t : List AV} {v : AV} {h : Heap} : opR d t (some (v, h)) = some (.normal, ⟨setD t d v, h⟩) := rfl
theorem opR_none {d : Option Nat} {t : List AV} : opR d t none = none := rfl
theorem opR_ite {d : Option Nat} {t : List AV} {c : Prop} [Decidable c] {x y : Option (AV × Heap)} : opR d t (if c then x else y) = if c then opR d t x else opR d t y := by split <;> rfl

theorem app_ops_nil : app tab G ns (.ops [] :: K) (some (.normal, st)) = app tab G ns K (some (.normal, st)) := rfl
/-- An operation without guard that freezes nothing. -/
theorem app_op {d : Option Nat} {o : Op1} {r : List Opr} : app tab G ns (.ops (⟨d, o, none, []⟩ :: r) :: K) (some (.normal, st)) = app tab G ns (.ops r :: K) (opR d st.t (ev1 G (Ev tab G) st o)) := by
  simp only [app, evOps, evOp, guardOf, frzTs]
  cases ev1 G (Ev tab G) st o with
  | none => rfl
  | some p => rfl
/-- It freezes first. -/
noncomputable def opF (tab : Nat → Option Fn) (G : Cf) (d : Option Nat) (o : Op1) : Option St → Option (Ex × St)
  | some st => opR d st.t (ev1 G (Ev tab G) st o)
  | none => none
theorem opF_some {d : Option Nat} {o : Op1} {st : St} : opF tab G d o (some st) = opR d st.t (ev1 G (Ev tab G) st o) := rfl
theorem app_opF {d : Option Nat} {o : Op1} {i : Nat} {fz : List Nat} {r : List Opr} : app tab G ns (.ops (⟨d, o, none, i :: fz⟩ :: r) :: K) (some (.normal, st)) = app tab G ns (.ops r :: K) (opF tab G d o (frzTs (i :: fz) st)) := by
  simp only [app, evOps, evOp, guardOf]
  cases frzTs (i :: fz) st with
  | none => rfl
  | some s1 =>
    simp only [opF]
    cases ev1 G (Ev tab G) s1 o with
    | none => rfl
    | some p => rfl
def AV.isU : AV → Bool
  | .s (.tuple _) => true
  | _ => false
theorem isU_undef : AV.isU (.s undef) = true := rfl
theorem isU_bool {b : Bool} : AV.isU (.s (.bool b)) = false := rfl
theorem isB_undef : AV.isB (.s undef) = false := rfl
theorem guard_b {t : List AV} {i : Nat} {b : Bool} (h : (t.getD i .undef).isB = true) : guardOf t (some (i, b)) = some ((t.getD i .undef).b == b) := by
  simp only [guardOf]
  revert h
  generalize t.getD i .undef = v
  intro h
  cases v <;> simp [AV.isB] at h
  rename_i u
  cases u <;> simp at h
  rfl
theorem guard_u {t : List AV} {i : Nat} {b : Bool} (h : (t.getD i .undef).isU = true) : guardOf t (some (i, b)) = some false := by
  simp only [guardOf]
  revert h
  generalize t.getD i .undef = v
  intro h
  cases v <;> simp [AV.isU] at h
  rename_i u
  cases u <;> simp at h
  rfl
theorem guard_n {t : List AV} {i : Nat} {b : Bool} (h1 : ¬ (t.getD i .undef).isB = true) (h2 : ¬ (t.getD i .undef).isU = true) : guardOf t (some (i, b)) = none := by
  simp only [guardOf]
  revert h1 h2
  generalize t.getD i .undef = v
  intro h1 h2
  cases v <;> try rfl
  rename_i u
  cases u <;> first | rfl | simp [AV.isB, AV.isU] at h1 h2
/-- An operation with a guard. -/
theorem app_opG {d : Option Nat} {o : Op1} {i : Nat} {b : Bool} {fz : List Nat} {r : List Opr} : app tab G ns (.ops (⟨d, o, some (i, b), fz⟩ :: r) :: K) (some (.normal, st)) =
    if (st.t.getD i .undef).isB = true then (if ((st.t.getD i .undef).b == b) = true then app tab G ns (.ops r :: K) (opF tab G d o (frzTs fz ⟨st.t.set i (.s (.bool b)), st.h⟩)) else app tab G ns (.ops r :: K) (some (.normal, ⟨setD (st.t.set i (.s (.bool (!b)))) d (.s undef), st.h⟩)))
    else if (st.t.getD i .undef).isU = true then app tab G ns (.ops r :: K) (some (.normal, ⟨setD st.t d (.s undef), st.h⟩)) else none := by
  simp only [app, evOps, evOp]
  by_cases h1 : (st.t.getD i .undef).isB = true
  · rw [if_pos h1, guard_b h1]
    by_cases hc : ((st.t.getD i .undef).b == b) = true
    · rw [if_pos hc, set_same h1 (by simpa using hc)]
      simp only [hc]
      cases frzTs fz st with
      | none => rfl
      | some s1 =>
        simp only [opF]
        cases ev1 G (Ev tab G) s1 o with
        | none => rfl
        | some p => rfl
    · rw [if_neg hc]
      have hc' : ((st.t.getD i .undef).b == b) = false := by simpa using hc
      rw [set_same h1 (by cases hb : (st.t.getD i .undef).b <;> cases b <;> simp_all)]
      simp only [hc']
  · rw [if_neg h1]
    by_cases h2 : (st.t.getD i .undef).isU = true
    · rw [if_pos h2, guard_u h2]
    · rw [if_neg h2, guard_n h1 h2]
      exact app_none

/-! ### Operations whose footprints are looked at -/
theorem app_P_nil {ps : List (Nat × Nat)} {fts : List (List Nat × List Nat)} : app tab G ns (.opsP ps fts [] :: K) (some (.normal, st)) = if okF ps fts = true then app tab G ns K (some (.normal, st)) else none := by
  simp only [app, feet, List.append_nil, evOps]
  split
  · rfl
  · exact app_none
def toN : Option St → Option (Ex × St)
  | some s => some (.normal, s)
  | none => none
theorem app_P_cons {ps : List (Nat × Nat)} {fts : List (List Nat × List Nat)} {o : Opr} {r : List Opr} : app tab G ns (.opsP ps fts (o :: r) :: K) (some (.normal, st)) = app tab G ns (.opsP ps (fts ++ [foot G o st]) r :: K) (toN (evOp G (Ev tab G) o st)) := by
  cases h : evOp G (Ev tab G) o st with
  | none =>
    simp only [app, feet, evOps, h, toN]
    simp
  | some s1 => simp only [app, feet, evOps, h, toN, List.append_assoc, List.cons_append, List.nil_append]
theorem app_Pop {ps : List (Nat × Nat)} {fts : List (List Nat × List Nat)} {d : Option Nat} {o : Op1} {r : List Opr} : app tab G ns (.opsP ps fts (⟨d, o, none, []⟩ :: r) :: K) (some (.normal, st)) = app tab G ns (.opsP ps (fts ++ [(fp G st.t st.h o, if o.cls = .r then [] else fp G st.t st.h o)]) r :: K) (opR d st.t (ev1 G (Ev tab G) st o)) := by
  rw [app_P_cons]
  simp only [foot, guardOf, frzTs, evOp, List.flatMap_nil, List.nil_append, and_true]
  cases ev1 G (Ev tab G) st o with
  | none => rfl
  | some p => rfl
/-- What a freezing operation touches. -/
def footF (G : Cf) (t : List AV) (fz : List Nat) (o : Op1) : Option St → List Nat × List Nat
  | some st' => ((fz.flatMap fun i => (t.getD i .undef).refs) ++ fp G st'.t st'.h o, if o.cls = .r ∧ fz = [] then [] else (fz.flatMap fun i => (t.getD i .undef).refs) ++ fp G st'.t st'.h o)
  | none => ([], [])
theorem app_PopF {ps : List (Nat × Nat)} {fts : List (List Nat × List Nat)} {d : Option Nat} {o : Op1} {i : Nat} {fz : List Nat} {r : List Opr} : app tab G ns (.opsP ps fts (⟨d, o, none, i :: fz⟩ :: r) :: K) (some (.normal, st)) = app tab G ns (.opsP ps (fts ++ [footF G st.t (i :: fz) o (frzTs (i :: fz) st)]) r :: K) (opF tab G d o (frzTs (i :: fz) st)) := by
  rw [app_P_cons]
  simp only [foot, guardOf, evOp, footF]
  cases frzTs (i :: fz) st with
  | none => rfl
  | some s1 =>
    simp only [opF]
    cases ev1 G (Ev tab G) s1 o with
    | none => rfl
    | some p => rfl
theorem app_PopG {ps : List (Nat × Nat)} {fts : List (List Nat × List Nat)} {d : Option Nat} {o : Op1} {i : Nat} {b : Bool} {fz : List Nat} {r : List Opr} : app tab G ns (.opsP ps fts (⟨d, o, some (i, b), fz⟩ :: r) :: K) (some (.normal, st)) =
    if (st.t.getD i .undef).isB = true then (if ((st.t.getD i .undef).b == b) = true then app tab G ns (.opsP ps (fts ++ [footF G st.t fz o (frzTs fz ⟨st.t.set i (.s (.bool b)), st.h⟩)]) r :: K) (opF tab G d o (frzTs fz ⟨st.t.set i (.s (.bool b)), st.h⟩)) else app tab G ns (.opsP ps (fts ++ [([], [])]) r :: K) (some (.normal, ⟨setD (st.t.set i (.s (.bool (!b)))) d (.s undef), st.h⟩)))
    else if (st.t.getD i .undef).isU = true then app tab G ns (.opsP ps (fts ++ [([], [])]) r :: K) (some (.normal, ⟨setD st.t d (.s undef), st.h⟩)) else none := by
  rw [app_P_cons]
  simp only [foot, evOp]
  by_cases h1 : (st.t.getD i .undef).isB = true
  · rw [if_pos h1, guard_b h1]
    by_cases hc : ((st.t.getD i .undef).b == b) = true
    · rw [if_pos hc, set_same h1 (by simpa using hc)]
      simp only [hc, footF]
      cases frzTs fz st with
      | none => rfl
      | some s1 =>
        simp only [opF]
        cases ev1 G (Ev tab G) s1 o with
        | none => rfl
        | some p => rfl
    · rw [if_neg hc]
      have hc' : ((st.t.getD i .undef).b == b) = false := by simpa using hc
      rw [set_same h1 (by cases hb : (st.t.getD i .undef).b <;> cases b <;> simp_all)]
      simp only [hc', toN]
  · rw [if_neg h1]
    by_cases h2 : (st.t.getD i .undef).isU = true
    · rw [if_pos h2, guard_u h2]
      rfl
    · rw [if_neg h2, guard_n h1 h2]
      exact app_none

/-! ### A function -/
noncomputable def fin (fn : Fn) (k : Nat) : Option (Ex × St) → Option (List AV × List Obj)
  | some (.normal, st) => padR (k + cntT fn.keep) (finish fn k st)
  | some (.ret, st) => padR (k + cntT fn.keep) (finish fn k st)
  | _ => none
theorem fin_n {fn : Fn} {k : Nat} {st : St} : fin fn k (some (.normal, st)) = padR (k + cntT fn.keep) (finish fn k st) := rfl
theorem fin_r {fn : Fn} {k : Nat} {st : St} : fin fn k (some (.ret, st)) = padR (k + cntT fn.keep) (finish fn k st) := rfl
theorem padR_ite {n : Nat} {c : Prop} [Decidable c] {x y : Option (List AV × List Obj)} : padR n (if c then x else y) = if c then padR n x else padR n y := by split <;> rfl
theorem fin_none {fn : Fn} {k : Nat} : fin fn k none = none := rfl
theorem fin_ite {fn : Fn} {k : Nat} {c : Prop} [Decidable c] {x y : Option (Ex × St)} : fin fn k (if c then x else y) = if c then fin fn k x else fin fn k y := by split <;> rfl

/-- The rule for a function. -/
theorem Ev_run {f : Nat} {fn : Fn} {args : List AV} {ins : List Obj} {r : List AV × List Obj} (ht : tab f = some fn) (hq : fn.nilq = false) (hn : args.length = fn.na) (h : fin fn ins.length (app tab G fn.ns [] (ex tab G fn.ns fn.body (start fn (canonA fn.raw args) ins))) = some r) : Ev tab G f args ins = some r := by
  refine Ev_fn ht hq ?_
  unfold evFn1
  rw [if_pos (by rw [canonA_len]; exact hn)]
  have h' : fin fn ins.length (evIR G LoopL (Ev tab G) fn.ns fn.body (start fn (canonA fn.raw args) ins)) = some r := h
  revert h'
  cases evIR G LoopL (Ev tab G) fn.ns fn.body (start fn (canonA fn.raw args) ins) with
  | none => exact fun h => h
  | some p =>
    obtain ⟨e, s⟩ := p
    cases e <;> exact fun h => h
/-- .. that is asked whether an empty slice is nil. -/
theorem Ev_nilq {f : Nat} {fn : Fn} {o : Bool} (ht : tab f = some fn) (hq : fn.nilq = true) (hr : fn.raw = []) (h1 : evFn1 G LoopL (Ev tab G) fn [.nilsl] [] = some ([.sl true []], [])) (h2 : evFn1 G LoopL (Ev tab G) fn [.esl] [] = some ([.sl true []], [])) : Ev tab G f [.sl o []] [] = some ([.sl true []], []) := by
  refine Ev_of ?_
  simp only [evFn, ht, evFnC, hq, hr, canonA, AV.canon, AV.canon1, if_true, h1, h2, both, eqAs, eqA, eqA1, eqE, Bool.and_self]
theorem Ev_nilq2 {f : Nat} {fn : Fn} {o : Bool} {rs : List AV} (ht : tab f = some fn) (hq : fn.nilq = true) (hr : fn.raw = []) (he : eqAs rs rs = true) (h1 : evFn1 G LoopL (Ev tab G) fn [.nilsl] [] = some (rs, [])) (h2 : evFn1 G LoopL (Ev tab G) fn [.esl] [] = some (rs, [])) : Ev tab G f [.sl o []] [] = some (rs, []) := by
  refine Ev_of ?_
  simp only [evFn, ht, evFnC, hq, hr, canonA, AV.canon, AV.canon1, if_true, h1, h2, both, he]
theorem Ev_raw {f : Nat} {fn : Fn} {a : AV} {r : List AV × List Obj} (ht : tab f = some fn) (hr : fn.raw = [true]) (hn : ∀ o, a ≠ .sl o []) (h : evFn1 G LoopL (Ev tab G) fn [a] [] = some r) : Ev tab G f [a] [] = some r := by
  refine Ev_of ?_
  simp only [evFn, ht, evFnC, hr, canonA]
  split
  · split
    · rename_i h1
      simp only [List.cons.injEq, and_true] at h1
      exact absurd h1 (hn _)
    · exact h
  · exact h
theorem Ev_notnil {f : Nat} {fn : Fn} {o : Bool} {x : List C} {l : List (List C)} {r : List AV × List Obj} (ht : tab f = some fn) (hq : fn.nilq = true) (hr : fn.raw = []) (h : evFn1 G LoopL (Ev tab G) fn [.sl o (x :: l)] [] = some r) : Ev tab G f [.sl o (x :: l)] [] = some r := by
  refine Ev_of ?_
  simp only [evFn, ht, evFnC, hq, hr, canonA, AV.canon, AV.canon1, if_true, h]
theorem evFn1_run {fn : Fn} {args : List AV} {ins : List Obj} {r : List AV × List Obj} (hn : args.length = fn.na) (h : fin fn ins.length (app tab G fn.ns [] (ex tab G fn.ns fn.body (start fn args ins))) = some r) : evFn1 G LoopL (Ev tab G) fn args ins = some r := by
  unfold evFn1
  rw [if_pos hn]
  have h' : fin fn ins.length (evIR G LoopL (Ev tab G) fn.ns fn.body (start fn args ins)) = some r := h
  revert h'
  cases evIR G LoopL (Ev tab G) fn.ns fn.body (start fn args ins) with
  | none => exact fun h => h
  | some p =>
    obtain ⟨e, s⟩ := p
    cases e <;> exact fun h => h

/-! ### A loop -/
/-- What comes behind a round. -/
noncomputable def againL (L : St → Option (Ex × St)) (ns : Nat) (k : List Bool) : Option (Ex × St) → Option (Ex × St)
  | some (.normal, st) => L (clean ns k st)
  | r => r
theorem again_n {L : St → Option (Ex × St)} {k : List Bool} {st : St} : againL L ns k (some (.normal, st)) = L (clean ns k st) := rfl
theorem again_e {L : St → Option (Ex × St)} {k : List Bool} {i : Nat} {st : St} : againL L ns k (some (.exit i, st)) = some (.exit i, st) := rfl
theorem again_r {L : St → Option (Ex × St)} {k : List Bool} {st : St} : againL L ns k (some (.ret, st)) = some (.ret, st) := rfl
theorem again_none {L : St → Option (Ex × St)} {k : List Bool} : againL L ns k none = none := rfl
theorem again_ite {L : St → Option (Ex × St)} {k : List Bool} {c : Prop} [Decidable c] {x y : Option (Ex × St)} : againL L ns k (if c then x else y) = if c then againL L ns k x else againL L ns k y := by split <;> rfl
theorem lp_eq (tab : Nat → Option Fn) (G : Cf) (ns : Nat) (k : List Bool) (b : IR) (st : St) : lp tab G ns k b st = againL (lp tab G ns k b) ns k (app tab G ns [] (ex tab G ns b st)) := by
  unfold lp
  rw [LoopL_eq]
  have : loopStep tab G ns k b st = loopEnd ns k (ex tab G ns b st) := rfl
  rw [this]
  simp only [app]
  cases ex tab G ns b st with
  | none => rfl
  | some p =>
    obtain ⟨e, s⟩ := p
    cases e <;> rfl
end

/-- A call by values alone. -/
def qK (outs : List Nat) (h : Heap) : Option (List AV × List Obj) → Option (AV × Heap)
  | some (rs, os) => if os.length = outs.length then (match alloc (outs.zip (os.map (Obj.ren fun i => outs.getD i 0))) h with
    | some h' => some (finishCall (renL (fun i => outs.getD i 0) rs), h')
    | none => none) else none
  | none => none
theorem op_qcall {tab : Nat → Option Fn} {G : Cf} {t : List AV} {h : Heap} {f : Nat} {args : List O} {outs : List Nat} : ev1 G (Ev tab G) ⟨t, h⟩ (.qcall f args outs) = if (refsL (args.map (rho G t))).isEmpty = true then qK outs h (Ev tab G f (cArgs tab f (ageL true (args.map (rho G t)))) []) else none := by
  rw [← Ev_canon]
  simp only [ev1, Op1.cls, evP]
  split
  · rename_i v al heq
    split at heq
    · rename_i hc
      rw [if_pos hc]
      split at heq
      · rename_i rs os hE
        rw [hE]
        simp only [qK]
        split at heq
        · rename_i hl
          simp only [Option.some.injEq, Prod.mk.injEq] at heq
          obtain ⟨rfl, rfl⟩ := heq
          rw [if_pos hl]
          cases alloc (outs.zip (os.map (Obj.ren fun i => outs.getD i 0))) h <;> rfl
        · simp at heq
      · simp at heq
    · simp at heq
  · rename_i heq
    split at heq
    · rename_i hc
      rw [if_pos hc]
      split at heq
      · rename_i rs os hE
        rw [hE]
        simp only [qK]
        split at heq
        · simp at heq
        · rename_i hl
          rw [if_neg hl]
      · rename_i hE
        rw [hE]
        rfl
    · rename_i hc
      rw [if_neg hc]
theorem qK_none {outs : List Nat} {h : Heap} : qK outs h none = none := rfl
theorem qK_ite {outs : List Nat} {h : Heap} {c : Prop} [Decidable c] {x y : Option (List AV × List Obj)} : qK outs h (if c then x else y) = if c then qK outs h x else qK outs h y := by split <;> rfl
/-- A call by references. -/
def cK (ids outs : List Nat) (h : Heap) : Option (List AV × List Obj) → Option (AV × Heap)
  | some (rs, os') => if os'.length = ids.length + (fitO outs os'.length ids.length).length then (match alloc ((fitO outs os'.length ids.length).zip ((os'.drop ids.length).map (Obj.ren fun i => (ids ++ fitO outs os'.length ids.length).getD i 0))) (putAll ids ((os'.take ids.length).map (Obj.ren fun i => (ids ++ fitO outs os'.length ids.length).getD i 0)) h) with
    | some h' => some (finishCall (renL (fun i => (ids ++ fitO outs os'.length ids.length).getD i 0) rs), h')
    | none => none) else none
  | none => none
theorem cK_none {ids outs : List Nat} {h : Heap} : cK ids outs h none = none := rfl
theorem cK_ite {ids outs : List Nat} {h : Heap} {c : Prop} [Decidable c] {x y : Option (List AV × List Obj)} : cK ids outs h (if c then x else y) = if c then cK ids outs h x else cK ids outs h y := by split <;> rfl
/-- The call, once it is told what is reached. -/
noncomputable def evC (tab : Nat → Option Fn) (G : Cf) (h : Heap) (f : Nat) (args : List AV) (outs ids : List Nat) : Option (AV × Heap) :=
  if (closed h (refsL args) ids && decide ids.Nodup) = true then (match getAll h ids with
    | some os => cK ids outs h (Ev tab G f (cArgs tab f (ageL true (renL (fun i => ids.idxOf i) args))) (os.map fun o => (o.ren fun i => ids.idxOf i).age true))
    | none => none) else none
theorem evCall_C {tab : Nat → Option Fn} {G : Cf} {h : Heap} {f : Nat} {args : List AV} {outs : List Nat} : evCall (Ev tab G) h f args outs = evC tab G h f args outs (reach h (refsL args)) := by
  simp only [evCall, evC]
  split
  · cases getAll h (reach h (refsL args)) with
    | none => rfl
    | some os =>
      simp only
      rw [← Ev_canon]
      cases Ev tab G f (ageL true (renL (fun i => (reach h (refsL args)).idxOf i) args)) (os.map fun o => (o.ren fun i => (reach h (refsL args)).idxOf i).age true) with
      | none => rfl
      | some p =>
        obtain ⟨rs, os'⟩ := p
        rfl
  · rfl

end Go.Ev
