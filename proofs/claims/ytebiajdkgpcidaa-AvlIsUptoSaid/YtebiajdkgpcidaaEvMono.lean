/-
  What the evaluator comes to with some fuel it comes to with more: closed calls are carried out by the kernel.
-/
import Derived.Test.YtebiajdkgpcidaaEvSim
set_option linter.unusedSimpArgs false
set_option linter.unusedVariables false
namespace Go.Ev

/-- One evaluator comes to all that another one comes to. -/
def Le (F F' : FnEv) : Prop := ∀ f args ins r, F f args ins = some r → F' f args ins = some r

section
variable {tab : Nat → Option Fn} {G : Cf} {F F' : FnEv}

theorem le_call (hF : Le F F') {h : Heap} {f : Nat} {args : List AV} {outs : List Nat} {r : AV × Heap} (he : evCall F h f args outs = some r) : evCall F' h f args outs = some r := by
  have he0 := he
  simp only [evCall] at he
  split at he
  · split at he
    · rename_i os hos
      split at he
      · rename_i rs os' hq
        rw [← he0]
        simp only [evCall, hos, hq, hF _ _ _ _ hq]
      · simp at he
    · simp at he
  · simp at he

theorem le_op (hF : Le F F') {st : St} {o : Op1} {r : AV × Heap} (he : ev1 G F st o = some r) : ev1 G F' st o = some r := by
  cases o <;> first
    | exact he
    | skip
  case qcall f args outs =>
    have he0 := he
    simp only [ev1, Op1.cls] at he
    split at he
    · rename_i v al h1
      simp only [evP] at h1
      split at h1
      · split at h1
        · rename_i rs os hq
          rw [← he0]
          simp only [ev1, Op1.cls, evP, hq, hF _ _ _ _ hq]
        · simp at h1
      · simp at h1
    · simp at he
  case call f args outs =>
    simp only [ev1, Op1.cls, evW] at he ⊢
    exact le_call hF he
  case callv g args outs =>
    simp only [ev1, Op1.cls, evW] at he ⊢
    split at he
    · split at he
      · rename_i hlt
        simp only [hlt, if_true]
        exact le_call hF he
      · simp at he
    · simp at he
  case bcall f args outs =>
    have he0 := he
    simp only [ev1, Op1.cls, evW] at he
    split at he
    · rename_i as h1
      split at he
      · split at he
        · rename_i rs os hq
          rw [← he0]
          simp only [ev1, Op1.cls, evW, h1, hq, hF _ _ _ _ hq]
        · simp at he
      · simp at he
    · simp at he

theorem le_opr (hF : Le F F') {st st' : St} {o : Opr} (he : evOp G F o st = some st') : evOp G F' o st = some st' := by
  have he0 := he
  simp only [evOp] at he
  split at he
  · rename_i hg
    split at he
    · rename_i s1 hf
      split at he
      · rename_i v h h1
        rw [← he0]
        simp only [evOp, hg, hf, h1, le_op hF h1]
      · simp at he
    · simp at he
  · rename_i hg
    rw [← he0]
    simp only [evOp, hg]
  · simp at he

theorem le_ops (hF : Le F F') : ∀ {ops : List Opr} {st st' : St}, evOps G F ops st = some st' → evOps G F' ops st = some st' ∧ feet G F' ops st = feet G F ops st
  | [], st, st', he => ⟨he, rfl⟩
  | o :: ops, st, st', he => by
    simp only [evOps] at he
    split at he
    · rename_i s1 h1
      have e1 := le_opr hF h1
      obtain ⟨e2, e3⟩ := le_ops hF he
      exact ⟨by simp only [evOps, e1, e2], by simp only [feet, e1, h1, e3]⟩
    · simp at he

theorem le_loop {s s' : St → Option (Ex × St)} (hs : ∀ st r, s st = some r → s' st = some r) : ∀ {n m : Nat} {st : St} {r : Ex × St}, n ≤ m → loopN n s st = some r → loopN m s' st = some r
  | 0, m, st, r, _, he => by simp [loopN] at he
  | n + 1, m, st, r, hle, he => by
    obtain ⟨m, rfl⟩ : ∃ q, m = q + 1 := ⟨m - 1, by omega⟩
    simp only [loopN] at he ⊢
    split at he
    · rename_i s1 h1
      rw [hs _ _ h1]
      exact le_loop hs (by omega) he
    · rename_i hne
      rw [hs _ _ he]
      obtain ⟨ex, s1⟩ := r
      cases ex with
      | normal => exact absurd he (hne s1)
      | exit i => rfl
      | ret => rfl

theorem le_ir (hF : Le F F') {n m : Nat} (hle : n ≤ m) (ns : Nat) : ∀ (ir : IR) {st : St} {r : Ex × St}, evIR G (fun s st => loopN n s st) F ns ir st = some r → evIR G (fun s st => loopN m s st) F' ns ir st = some r := by
  intro ir
  induction ir with
  | skip => exact fun {st r} he => he
  | reg pairs ops =>
    intro st r he
    have he0 := he
    simp only [evIR] at he
    split at he
    · rename_i hp
      split at he
      · rename_i s1 h1
        obtain ⟨e1, e2⟩ := le_ops hF h1
        have hp' : okPairs G F' pairs ops st = true := by simpa only [okPairs, e2] using hp
        simp only [evIR, hp', e1, if_true]
        exact he
      · simp at he
    · simp at he
  | seq a b iha ihb =>
    intro st r he
    simp only [evIR] at he
    split at he
    · rename_i s1 h1
      simp only [evIR, iha h1, ihb he]
    · rename_i hne
      simp only [evIR, iha he]
      obtain ⟨ex, s1⟩ := r
      cases ex with
      | normal => exact absurd he (hne s1)
      | exit i => rfl
      | ret => rfl
  | cond c a b iha ihb =>
    intro st r he
    simp only [evIR] at he ⊢
    split at he
    · exact iha he
    · exact ihb he
    · simp at he
  | block id k b ih =>
    intro st r he
    have he0 := he
    simp only [evIR] at he
    split at he
    · rename_i i s1 h1
      simp only [evIR, ih h1]; exact he
    · rename_i s1 h1
      simp only [evIR, ih h1]; exact he
    · rename_i hn1 hn2
      simp only [evIR, ih he]
      obtain ⟨ex, s1⟩ := r
      cases ex with
      | normal => exact absurd he (hn2 s1)
      | exit i => exact absurd he (hn1 i s1)
      | ret => rfl
  | loop k b ih =>
    intro st r he
    simp only [evIR] at he ⊢
    refine le_loop (fun st r h => ?_) hle he
    unfold loopEnd at h ⊢
    split at h
    · rename_i s1 h1
      rw [ih h1]
      exact h
    · rename_i hne
      rw [ih h]
      obtain ⟨ex, s1⟩ := r
      cases ex with
      | normal => exact absurd h (hne s1)
      | exit i => rfl
      | ret => rfl
  | exit id k => exact fun {st r} he => he
  | ret k => exact fun {st r} he => he

theorem le_fn1 (hF : Le F F') {n m : Nat} (hle : n ≤ m) {fn : Fn} {args : List AV} {ins : List Obj} {r : List AV × List Obj} (he : evFn1 G (fun s st => loopN n s st) F fn args ins = some r) : evFn1 G (fun s st => loopN m s st) F' fn args ins = some r := by
  unfold evFn1 at he ⊢
  split at he
  · rename_i hlen
    simp only [if_pos hlen]
    split at he
    · rename_i st h1
      simp only [le_ir hF hle _ _ h1]; exact he
    · rename_i st h1
      simp only [le_ir hF hle _ _ h1]; exact he
    · simp at he
  · simp at he

theorem le_fnC (hF : Le F F') {n m : Nat} (hle : n ≤ m) {fn : Fn} {args : List AV} {ins : List Obj} {r : List AV × List Obj} (he : evFnC G (fun s st => loopN n s st) F fn args ins = some r) : evFnC G (fun s st => loopN m s st) F' fn args ins = some r := by
  unfold evFnC at he
  split at he
  · rename_i hq
    split at he
    · obtain ⟨e1, e2⟩ := both_some he
      simp only [evFnC, hq, if_true, le_fn1 hF hle e1, le_fn1 hF hle e2]
      rw [e1, e2] at he
      exact he
    · simp only [evFnC, hq, if_true]
      exact le_fn1 hF hle he
  · rename_i hq
    simp only [evFnC, if_neg hq]
    exact le_fn1 hF hle he
theorem le_fn (hF : Le F F') {n m : Nat} (hle : n ≤ m) : Le (evFn tab G (fun s st => loopN n s st) F) (evFn tab G (fun s st => loopN m s st) F') := fun f args ins r he => by
  simp only [evFn] at he
  split at he
  · rename_i fn hfn
    simp only [evFn, hfn]
    exact le_fnC hF hle he
  · simp at he

theorem le_N : ∀ {n m : Nat}, n ≤ m → Le (evN tab G n) (evN tab G m)
  | 0, m, _ => fun f args ins r he => by simp [evN] at he
  | n + 1, m, hle => by
    obtain ⟨m, rfl⟩ : ∃ q, m = q + 1 := ⟨m - 1, by omega⟩
    exact le_fn (le_N (by omega)) (by omega)

/-- A closed call is carried out with so much fuel. -/
theorem Ev_by (n : Nat) {f : Nat} {args : List AV} {ins : List Obj} {r : List AV × List Obj} (he : evN tab G n f args ins = some r) : Ev tab G f args ins = some r :=
  lim_of ⟨n, fun m hle => le_N hle f args ins r he⟩

end
end Go.Ev
