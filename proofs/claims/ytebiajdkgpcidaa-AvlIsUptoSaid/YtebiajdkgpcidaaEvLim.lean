/-
  The evaluator without fuel: what it comes to, once there is enough.
-/
import Derived.Test.YtebiajdkgpcidaaEvFn
set_option linter.unusedSimpArgs false
set_option linter.unusedVariables false
namespace Go.Ev

/-- What a sequence comes to, if it comes to something and stays there. -/
def Evt {α : Type} (s : Nat → Option α) (r : α) : Prop := ∃ n0, ∀ n, n0 ≤ n → s n = some r

theorem Evt.uniq {α : Type} {s : Nat → Option α} {r u : α} (h : Evt s r) (k : Evt s u) : r = u := by
  obtain ⟨n, hn⟩ := h
  obtain ⟨m, hm⟩ := k
  have h1 := hn (max n m) (Nat.le_max_left _ _)
  have h2 := hm (max n m) (Nat.le_max_right _ _)
  rw [h1] at h2
  injection h2

open Classical in
noncomputable def lim {α : Type} (s : Nat → Option α) : Option α := if h : ∃ r, Evt s r then some (Classical.choose h) else none

theorem lim_of {α : Type} {s : Nat → Option α} {r : α} (h : Evt s r) : lim s = some r := by
  unfold lim
  have hex : ∃ r, Evt s r := ⟨r, h⟩
  rw [dif_pos hex]
  exact congrArg some ((Classical.choose_spec hex).uniq h)
theorem lim_some {α : Type} {s : Nat → Option α} {r : α} (h : lim s = some r) : Evt s r := by
  unfold lim at h
  split at h
  · rename_i hex
    injection h with h
    subst h
    exact Classical.choose_spec hex
  · simp at h

/-- A loop. -/
noncomputable def LoopL (step : St → Option (Ex × St)) (st : St) : Option (Ex × St) := lim fun n => loopN n step st
/-- A function. -/
noncomputable def Ev (tab : Nat → Option Fn) (G : Cf) : FnEv := fun f args ins => lim fun n => evN tab G n f args ins

theorem lim_shift {α : Type} (s : Nat → Option α) : lim (fun n => s (n + 1)) = lim s := by
  cases h : lim s with
  | some r =>
    obtain ⟨n0, hn⟩ := lim_some h
    exact lim_of ⟨n0, fun n hle => hn (n + 1) (by omega)⟩
  | none =>
    cases k : lim (fun n => s (n + 1)) with
    | none => rfl
    | some r =>
      obtain ⟨n0, hn⟩ := lim_some k
      have : lim s = some r := lim_of ⟨n0 + 1, fun n hle => by
        obtain ⟨m, rfl⟩ : ∃ m, n = m + 1 := ⟨n - 1, by omega⟩
        exact hn m (by omega)⟩
      rw [h] at this
      simp at this

theorem lim_const {α : Type} (r : Option α) : lim (fun _ => r) = r := by
  cases r with
  | some r => exact lim_of ⟨0, fun _ _ => rfl⟩
  | none =>
    cases k : lim (fun _ : Nat => (none : Option α)) with
    | none => rfl
    | some r =>
      obtain ⟨n0, hn⟩ := lim_some k
      have := hn n0 (Nat.le_refl _)
      simp at this

theorem LoopL_eq (step : St → Option (Ex × St)) (st : St) : LoopL step st = match step st with
    | some (.normal, st') => LoopL step st'
    | r => r := by
  have h1 : LoopL step st = lim fun n => loopN (n + 1) step st := (lim_shift _).symm
  rw [h1]
  simp only [loopN]
  cases h2 : step st with
  | none => exact lim_const _
  | some r =>
    obtain ⟨ex, s1⟩ := r
    cases ex with
    | normal => rfl
    | exit i => exact lim_const _
    | ret => exact lim_const _

section
variable {tab : Nat → Option Fn} {G : Cf}

theorem evt_map {α β : Type} {s : Nat → Option α} {r : α} (h : Evt s r) (f : α → Option β) {u : β} (hu : f r = some u) : Evt (fun n => match s n with | some a => f a | none => none) u := by
  obtain ⟨n0, hn⟩ := h
  exact ⟨n0, fun n hle => by simp only [hn n hle, hu]⟩

theorem evt_fn {f : Nat} {args : List AV} {ins : List Obj} {r : List AV × List Obj} (h : Ev tab G f args ins = some r) : Evt (fun n => evN tab G n f args ins) r := lim_some h

/-- What a function asks of another one is finite. -/
def Cont (f : FnEv → Option (AV × Heap)) : Prop := ∀ r, f (Ev tab G) = some r → Evt (fun n => f (evN tab G n)) r

theorem evt_const {α : Type} (r : α) : Evt (fun _ => some r) r := ⟨0, fun _ _ => rfl⟩

theorem cont_call {h : Heap} {f : Nat} {args : List AV} {outs : List Nat} {r : AV × Heap} (he : evCall (Ev tab G) h f args outs = some r) : Evt (fun n => evCall (evN tab G n) h f args outs) r := by
  have he0 := he
  simp only [evCall] at he
  split at he
  · rename_i hc
    split at he
    · rename_i os hos
      split at he
      · rename_i rs os' hF
        obtain ⟨n0, hn⟩ := evt_fn hF
        refine ⟨n0, fun n hle => ?_⟩
        rw [← he0]
        simp only [evCall, hos, hn n hle, hF]
      · simp at he
    · simp at he
  · simp at he

theorem cont_op {st : St} {o : Op1} {r : AV × Heap} (he : ev1 G (Ev tab G) st o = some r) : Evt (fun n => ev1 G (evN tab G n) st o) r := by
  have same : (∀ F : FnEv, ev1 G F st o = ev1 G (Ev tab G) st o) → Evt (fun n => ev1 G (evN tab G n) st o) r := fun h => ⟨0, fun n _ => (h _).trans he⟩
  cases o <;> first
    | exact same fun F => rfl
    | skip
  case qcall f args outs =>
    have he0 := he
    simp only [ev1, Op1.cls] at he
    split at he
    · rename_i v al h1
      simp only [evP] at h1
      split at h1
      · split at h1
        · rename_i rs os hF
          obtain ⟨n0, hn⟩ := evt_fn hF
          refine ⟨n0, fun n hle => ?_⟩
          rw [← he0]
          simp only [ev1, Op1.cls, evP, hn n hle, hF]
        · simp at h1
      · simp at h1
    · simp at he
  case call f args outs =>
    simp only [ev1, Op1.cls, evW] at he ⊢
    exact cont_call he
  case callv g args outs =>
    simp only [ev1, Op1.cls, evW] at he ⊢
    split at he
    · rename_i f caps hg
      split at he
      · rename_i hlt
        simp only [hlt, if_true]
        exact cont_call he
      · simp at he
    · simp at he
  case bcall f args outs =>
    have he0 := he
    simp only [ev1, Op1.cls, evW] at he
    split at he
    · rename_i as h1
      split at he
      · split at he
        · rename_i rs os hF
          obtain ⟨n0, hn⟩ := evt_fn hF
          refine ⟨n0, fun n hle => ?_⟩
          rw [← he0]
          simp only [ev1, Op1.cls, evW, h1, hn n hle, hF]
        · simp at he
      · simp at he
    · simp at he

theorem cont_opr {st st' : St} {o : Opr} (he : evOp G (Ev tab G) o st = some st') : Evt (fun n => evOp G (evN tab G n) o st) st' := by
  have he0 := he
  simp only [evOp] at he
  split at he
  · rename_i hg
    split at he
    · rename_i s1 hf
      split at he
      · rename_i v h h1
        obtain ⟨n0, hn⟩ := cont_op h1
        refine ⟨n0, fun n hle => ?_⟩
        rw [← he0]
        simp only [evOp, hg, hf, hn n hle, h1]
      · simp at he
    · simp at he
  · rename_i hg
    refine ⟨0, fun n _ => ?_⟩
    rw [← he0]
    simp only [evOp, hg]
  · simp at he

theorem cont_ops : ∀ {ops : List Opr} {st st' : St}, evOps G (Ev tab G) ops st = some st' → ∃ n0, ∀ n, n0 ≤ n → evOps G (evN tab G n) ops st = some st' ∧ feet G (evN tab G n) ops st = feet G (Ev tab G) ops st
  | [], st, st', he => ⟨0, fun n _ => ⟨he, rfl⟩⟩
  | o :: ops, st, st', he => by
    simp only [evOps] at he
    split at he
    · rename_i s1 h1
      obtain ⟨n0, hn⟩ := cont_opr h1
      obtain ⟨m0, hm⟩ := cont_ops he
      refine ⟨max n0 m0, fun n hle => ?_⟩
      have e1 := hn n (by omega)
      obtain ⟨e2, e3⟩ := hm n (by omega)
      exact ⟨by simp only [evOps, e1, e2], by simp only [feet, e1, h1, e3]⟩
    · simp at he

theorem cont_loop {sN : Nat → St → Option (Ex × St)} {s : St → Option (Ex × St)} (hs : ∀ st r, s st = some r → Evt (fun n => sN n st) r) : ∀ (k : Nat) {st : St} {r : Ex × St}, loopN k s st = some r → ∃ n0, ∀ m n, n0 ≤ m → n0 ≤ n → loopN m (sN n) st = some r
  | 0, st, r, he => by simp [loopN] at he
  | k + 1, st, r, he => by
    simp only [loopN] at he
    split at he
    · rename_i s1 h1
      obtain ⟨n0, hn⟩ := hs _ _ h1
      obtain ⟨m0, hm⟩ := cont_loop hs k he
      refine ⟨max n0 m0 + 1, fun m n h2 h3 => ?_⟩
      obtain ⟨m, rfl⟩ : ∃ q, m = q + 1 := ⟨m - 1, by omega⟩
      simp only [loopN, hn n (by omega)]
      exact hm m n (by omega) (by omega)
    · rename_i hne
      obtain ⟨n0, hn⟩ := hs _ _ he
      refine ⟨n0 + 1, fun m n h2 h3 => ?_⟩
      obtain ⟨m, rfl⟩ : ∃ q, m = q + 1 := ⟨m - 1, by omega⟩
      simp only [loopN, hn n (by omega)]
      obtain ⟨ex, s1⟩ := r
      cases ex with
      | normal => exact absurd he (hne s1)
      | exit i => rfl
      | ret => rfl

theorem cont_ir (ns : Nat) : ∀ (ir : IR) {st : St} {r : Ex × St}, evIR G LoopL (Ev tab G) ns ir st = some r → Evt (fun n => evIR G (fun s st => loopN n s st) (evN tab G n) ns ir st) r := by
  intro ir
  induction ir with
  | skip => exact fun {st r} he => ⟨0, fun n _ => he⟩
  | reg pairs ops =>
    intro st r he
    have he0 := he
    simp only [evIR] at he
    split at he
    · rename_i hp
      split at he
      · rename_i s1 h1
        obtain ⟨n0, hn⟩ := cont_ops h1
        refine ⟨n0, fun n hle => ?_⟩
        obtain ⟨e1, e2⟩ := hn n hle
        have hp' : okPairs G (evN tab G n) pairs ops st = true := by simpa only [okPairs, e2] using hp
        simp only [evIR, hp', e1, if_true]
        exact he
      · simp at he
    · simp at he
  | seq a b iha ihb =>
    intro st r he
    simp only [evIR] at he
    split at he
    · rename_i s1 h1
      obtain ⟨n0, hn⟩ := iha h1
      obtain ⟨m0, hm⟩ := ihb he
      exact ⟨max n0 m0, fun n hle => by simp only [evIR, hn n (by omega), hm n (by omega)]⟩
    · rename_i hne
      obtain ⟨n0, hn⟩ := iha he
      refine ⟨n0, fun n hle => ?_⟩
      simp only [evIR, hn n hle]
      obtain ⟨ex, s1⟩ := r
      cases ex with
      | normal => exact absurd he (hne s1)
      | exit i => rfl
      | ret => rfl
  | cond c a b iha ihb =>
    intro st r he
    simp only [evIR] at he ⊢
    split at he
    · exact iha he
    · exact ihb he
    · simp at he
  | block id k b ih =>
    intro st r he
    have he0 := he
    simp only [evIR] at he
    split at he
    · rename_i i s1 h1
      obtain ⟨n0, hn⟩ := ih h1
      exact ⟨n0, fun n hle => by simp only [evIR, hn n hle]; exact he⟩
    · rename_i s1 h1
      obtain ⟨n0, hn⟩ := ih h1
      exact ⟨n0, fun n hle => by simp only [evIR, hn n hle]; exact he⟩
    · rename_i hn1 hn2
      obtain ⟨n0, hn⟩ := ih he
      refine ⟨n0, fun n hle => ?_⟩
      simp only [evIR, hn n hle]
      obtain ⟨ex, s1⟩ := r
      cases ex with
      | normal => exact absurd he (hn2 s1)
      | exit i => exact absurd he (hn1 i s1)
      | ret => rfl
  | loop k b ih =>
    intro st r he
    simp only [evIR] at he ⊢
    obtain ⟨k0, hk⟩ := lim_some he
    obtain ⟨n0, hn⟩ := cont_loop (sN := fun n st => loopEnd ns k (evIR G (fun s st => loopN n s st) (evN tab G n) ns b st)) (fun st r h => by
      unfold loopEnd at h
      split at h
      · rename_i s1 h1
        obtain ⟨m, hm⟩ := ih h1
        exact ⟨m, fun n hle => by simp only [hm n hle, loopEnd]; exact h⟩
      · rename_i hne
        obtain ⟨m, hm⟩ := ih h
        refine ⟨m, fun n hle => ?_⟩
        simp only [hm n hle, loopEnd]
        obtain ⟨ex, s1⟩ := r
        cases ex with
        | normal => exact absurd h (hne s1)
        | exit i => rfl
        | ret => rfl) k0 (hk k0 (Nat.le_refl _))
    exact ⟨n0, fun n hle => hn n n hle hle⟩
  | exit id k => exact fun {st r} he => ⟨0, fun n _ => he⟩
  | ret k => exact fun {st r} he => ⟨0, fun n _ => he⟩

theorem cont_fn1 {fn : Fn} {args : List AV} {ins : List Obj} {r : List AV × List Obj} (he : evFn1 G LoopL (Ev tab G) fn args ins = some r) : Evt (fun n => evFn1 G (fun s st => loopN n s st) (evN tab G n) fn args ins) r := by
  unfold evFn1 at he ⊢
  split at he
  · rename_i hlen
    simp only [if_pos hlen]
    split at he
    · rename_i st h1
      obtain ⟨n0, hn⟩ := cont_ir fn.ns fn.body h1
      exact ⟨n0, fun n hle => by simp only [hn n hle, he]⟩
    · rename_i st h1
      obtain ⟨n0, hn⟩ := cont_ir fn.ns fn.body h1
      exact ⟨n0, fun n hle => by simp only [hn n hle, he]⟩
    · simp at he
  · simp at he

theorem cont_fnC {fn : Fn} {args : List AV} {ins : List Obj} {r : List AV × List Obj} (he : evFnC G LoopL (Ev tab G) fn args ins = some r) : Evt (fun n => evFnC G (fun s st => loopN n s st) (evN tab G n) fn args ins) r := by
  have he0 := he
  unfold evFnC at he
  split at he
  · rename_i hq
    split at he
    · obtain ⟨e1, e2⟩ := both_some he
      obtain ⟨n1, h1⟩ := cont_fn1 e1
      obtain ⟨n2, h2⟩ := cont_fn1 e2
      exact ⟨max n1 n2, fun n hle => by
        simp only [evFnC, hq, if_true, h1 n (by omega), h2 n (by omega)]
        rw [e1, e2] at he
        exact he⟩
    · obtain ⟨n1, h1⟩ := cont_fn1 he
      refine ⟨n1, fun n hle => ?_⟩
      simp only [evFnC, hq, if_true]
      exact h1 n hle
  · rename_i hq
    obtain ⟨n1, h1⟩ := cont_fn1 he
    exact ⟨n1, fun n hle => by simp only [evFnC, if_neg hq]; exact h1 n hle⟩

/-- What a function's body comes to is what the function comes to. -/
theorem Ev_of {f : Nat} {args : List AV} {ins : List Obj} {r : List AV × List Obj} (he : evFn tab G LoopL (Ev tab G) f args ins = some r) : Ev tab G f args ins = some r := by
  have key : Evt (fun n => evFn tab G (fun s st => loopN n s st) (evN tab G n) f args ins) r := by
    simp only [evFn] at he
    split at he
    · rename_i fn hfn
      obtain ⟨n1, h1⟩ := cont_fnC he
      exact ⟨n1, fun n hle => by simp only [evFn, hfn]; exact h1 n hle⟩
    · simp at he
  obtain ⟨n0, hn⟩ := key
  refine lim_of ⟨n0 + 1, fun n hle => ?_⟩
  obtain ⟨m, rfl⟩ : ∃ q, n = q + 1 := ⟨n - 1, by omega⟩
  exact hn m (by omega)

/-- The rule for one function. -/
theorem Ev_fn {f : Nat} {fn : Fn} {args : List AV} {ins : List Obj} {r : List AV × List Obj} (ht : tab f = some fn) (hq : fn.nilq = false) (h : evFn1 G LoopL (Ev tab G) fn (canonA fn.raw args) ins = some r) : Ev tab G f args ins = some r := by
  refine Ev_of ?_
  simp only [evFn, ht, evFnC, hq, Bool.false_eq_true, if_false]
  exact h

theorem canon1_idem (a : AV) : a.canon1.canon1 = a.canon1 := by cases a <;> rfl
theorem canon_idem (a : AV) : a.canon.canon = a.canon := by
  cases a <;> try rfl
  simp only [AV.canon, List.map_map]
  congr 1
  exact List.map_congr_left fun b _ => canon1_idem b
theorem canonA_idem : ∀ (k : List Bool) (l : List AV), canonA k (canonA k l) = canonA k l
  | [], [] => rfl
  | true :: k, [] => rfl
  | false :: k, [] => rfl
  | [], b :: l => by simp [canonA, canon_idem, canonA_idem [] l]
  | true :: k, b :: l => by simp [canonA, canonA_idem k l]
  | false :: k, b :: l => by simp [canonA, canon_idem, canonA_idem k l]
/-- Arguments as a function takes them. -/
def cArgs (tab : Nat → Option Fn) (f : Nat) (args : List AV) : List AV := match tab f with
  | some fn => canonA fn.raw args
  | none => args
theorem Ev_canon (f : Nat) (args : List AV) (ins : List Obj) : Ev tab G f args ins = Ev tab G f (cArgs tab f args) ins := by
  unfold cArgs
  cases ht : tab f with
  | none => rfl
  | some fn =>
    have h : ∀ n, evN tab G n f args ins = evN tab G n f (canonA fn.raw args) ins := fun n => by
      cases n with
      | zero => rfl
      | succ n => simp only [evN, evFn, ht, canonA_idem]
    unfold Ev
    congr 1
    funext n
    exact h n

/-- What the evaluator says is what the model does. -/
theorem Ev_ok {P : Program} (ht : TabOk P tab) (hg : G.gf = true → ∀ g, G.G g = []) {f : Nat} {args : List AV} {ins : List Obj} {rs : List AV} {outs : List Obj} (he : Ev tab G f args ins = some (rs, outs)) : Contract P G (real f) args ins rs outs := by
  obtain ⟨n0, hn⟩ := evt_fn he
  exact (evN_ok ht hg n0).ok f args ins rs outs (hn n0 (Nat.le_refl _))

end
end Go.Ev
