/-
  Rules for carrying out the evaluator by rewriting.
-/
import Derived.Test.YtfbipgidlecmkaaEvLaw
set_option linter.unusedSimpArgs false
set_option linter.unusedVariables false
namespace Go.Ev

section
variable {tab : Nat → Option Fn} {G : Cf}

/-- One round of a loop. -/
noncomputable def loopStep (tab : Nat → Option Fn) (G : Cf) (ns : Nat) (k : List Bool) (b : IR) (st : St) : Option (Ex × St) := evIR G LoopL (Ev tab G) ns b (clean ns k st)

theorem evIR_skip {F : FnEv} {ns : Nat} {st : St} : evIR G LoopL F ns .skip st = some (.normal, st) := rfl
theorem evIR_exit {F : FnEv} {ns i : Nat} {st : St} : evIR G LoopL F ns (.exit i) st = some (.exit i, st) := rfl
theorem evIR_ret {F : FnEv} {ns : Nat} {st : St} : evIR G LoopL F ns .ret st = some (.ret, st) := rfl
theorem evIR_reg {F : FnEv} {ns : Nat} {st : St} {pairs : List (Nat × Nat)} {ops : List Opr} : evIR G LoopL F ns (.reg pairs ops) st = if okPairs G F pairs ops st then (match evOps G F ops st with
    | some st' => some (.normal, st')
    | none => none) else none := rfl
theorem evIR_seq {F : FnEv} {ns : Nat} {st : St} {a b : IR} : evIR G LoopL F ns (.seq a b) st = match evIR G LoopL F ns a st with
    | some (.normal, st') => evIR G LoopL F ns b st'
    | r => r := rfl
theorem evIR_cond {F : FnEv} {ns : Nat} {st : St} {c : O} {a b : IR} : evIR G LoopL F ns (.cond c a b) st = match rho G st.t c with
    | .s (.bool true) => evIR G LoopL F ns a st
    | .s (.bool false) => evIR G LoopL F ns b st
    | _ => none := rfl
theorem evIR_block {F : FnEv} {ns : Nat} {st : St} {id : Nat} {k : List Bool} {b : IR} : evIR G LoopL F ns (.block id k b) st = match evIR G LoopL F ns b st with
    | some (.exit i, st') => if i = id then some (.normal, clean ns k st') else some (.exit i, st')
    | some (.normal, st') => some (.normal, clean ns k st')
    | r => r := rfl
theorem evIR_loop {ns : Nat} {st : St} {k : List Bool} {b : IR} : evIR G LoopL (Ev tab G) ns (.loop k b) st = LoopL (loopStep tab G ns k b) st := rfl

theorem LoopL_next {s : St → Option (Ex × St)} {st st' : St} (h : s st = some (.normal, st')) : LoopL s st = LoopL s st' := by
  rw [LoopL_eq, h]
theorem LoopL_exit {s : St → Option (Ex × St)} {st st' : St} {i : Nat} (h : s st = some (.exit i, st')) : LoopL s st = some (.exit i, st') := by
  rw [LoopL_eq, h]
theorem LoopL_ret {s : St → Option (Ex × St)} {st st' : St} (h : s st = some (.ret, st')) : LoopL s st = some (.ret, st') := by
  rw [LoopL_eq, h]
end

/-- A round, by what is kept of its end. -/
theorem round_of {r : Option (Ex × St)} {ns : Nat} {k : List Bool} {ex : Ex} {c : St} (h : r.map (fun q => (q.1, clean ns k q.2)) = some (ex, c)) : ∃ st', r = some (ex, st') ∧ clean ns k st' = c := by
  obtain ⟨⟨e, st'⟩, h1, h2⟩ := Option.map_eq_some_iff.1 h
  simp only [Prod.mk.injEq] at h2
  obtain ⟨rfl, h3⟩ := h2
  exact ⟨st', h1, h3⟩

open Classical in
/-- Where a loop ends, as a function of where it begins. -/
theorem pick_end {p : St → Prop} {q : St → St → Prop} (h : ∀ st, p st → ∃ s', q st s') : ∃ F : St → St, ∀ st, p st → q st (F st) :=
  ⟨fun st => if hp : p st then Classical.choose (h st hp) else st, fun st hp => by
    simp only [dif_pos hp]
    exact Classical.choose_spec (h st hp)⟩

theorem bft : (false == true) = false := rfl
theorem btf : (true == false) = false := rfl
theorem bff : (false == false) = true := rfl

/-! ### Numbers -/
theorem shl_ev (k : IntKind) (x y : Int) (h : 0 ≤ y) : shiftI k .shl x y = some (k.wrap (x * 2 ^ (min y.toNat k.bits))) := by
  simp only [shiftI]; rw [if_neg (by omega)]
theorem shr_ev (k : IntKind) (x y : Int) (h : 0 ≤ y) : shiftI k .shr x y = some (x.fdiv (2 ^ (min y.toNat k.bits))) := by
  simp only [shiftI]; rw [if_neg (by omega)]
def orI (k : IntKind) (x y : Int) : Int := k.wrap (BitVec.ofInt k.bits x ||| BitVec.ofInt k.bits y).toNat
theorem or_ev (k : IntKind) (x y : Int) : arithI k .or x y = some (orI k x y) := rfl
def xorI (k : IntKind) (x y : Int) : Int := k.wrap (BitVec.ofInt k.bits x ^^^ BitVec.ofInt k.bits y).toNat
theorem xor_ev (k : IntKind) (x y : Int) : arithI k .xor x y = some (xorI k x y) := rfl
def andI (k : IntKind) (x y : Int) : Int := k.wrap (BitVec.ofInt k.bits x &&& BitVec.ofInt k.bits y).toNat
theorem and_ev (k : IntKind) (x y : Int) : arithI k .and x y = some (andI k x y) := rfl
theorem add_ev (k : IntKind) (x y : Int) : arithI k .add x y = some (k.wrap (x + y)) := rfl
theorem sub_ev (k : IntKind) (x y : Int) : arithI k .sub x y = some (k.wrap (x - y)) := rfl
theorem mul_ev (k : IntKind) (x y : Int) : arithI k .mul x y = some (k.wrap (x * y)) := rfl
theorem quo_ev (k : IntKind) (x y : Int) (h : y ≠ 0) : arithI k .quo x y = some (k.wrap (x.tdiv y)) := by
  simp only [arithI]; rw [if_neg h]
theorem rem_ev (k : IntKind) (x y : Int) (h : y ≠ 0) : arithI k .rem x y = some (x.tmod y) := by
  simp only [arithI]; rw [if_neg h]

theorem wrap_u {k : IntKind} (hs : k.signed = false) {n : Int} (h0 : 0 ≤ n) (h1 : n < 2 ^ k.bits) : k.wrap n = n := by
  simp only [IntKind.wrap, hs, Bool.false_and, Bool.false_eq_true, if_false]
  exact Int.emod_eq_of_lt h0 h1
theorem wrap_u64 {n : Int} (h0 : 0 ≤ n) (h1 : n < 18446744073709551616) : IntKind.wrap .u64 n = n := wrap_u rfl h0 h1
theorem wrap_u8 {n : Int} (h0 : 0 ≤ n) (h1 : n < 256) : IntKind.wrap .u8 n = n := wrap_u rfl h0 h1
theorem wrap_u32 {n : Int} (h0 : 0 ≤ n) (h1 : n < 4294967296) : IntKind.wrap .u32 n = n := wrap_u rfl h0 h1
theorem wrap_i64 {n : Int} (h0 : -9223372036854775808 ≤ n) (h1 : n < 9223372036854775808) : IntKind.wrap .i64 n = n := by
  simp [IntKind.wrap, IntKind.signed, IntKind.bits]; omega

end Go.Ev
