/-
  A law's row, out of what the evaluator says of the law.
-/
import Derived.Test.YtebiajdkgpcidaaEvRow
import Derived.WalkKit
import Derived.ProofKit
import Derived.OpenShut
import Derived.ShutString
import Derived.ChangeOld
import Derived.SizedLaws
import Derived.Carry
set_option linter.unusedSimpArgs false
set_option linter.unusedVariables false
namespace Go.Ev
open Go.RowKit Go.ChangeShapes Go.WideShapes Go.ChangeAt

theorem trodAll_stays {H : Type} {enc : TypeId × Value → H} {P : Program} (hl : laidOutB P = true) {W W' : World} (hb : Below W.heap.size W W') : ∀ {ts : List TypeId} {vs : List Value} {ds : List (DataW H)} {ps : List MemPlace},
    (ts.all fun t => P.readableRec t && decide (t < P.types.size)) = true → DataW.TrodAll enc P W 0 (fun _ => true) true ts vs ds ps → DataW.TrodAll enc P W' 0 (fun b => decide (b < W.heap.size)) true ts vs ds ps
  | [], [], [], ps, _, h => h
  | [], [], _ :: _, _, _, h => by simp [DataW.TrodAll] at h
  | [], _ :: _, _, _, _, h => by simp [DataW.TrodAll] at h
  | _ :: _, [], _, _, _, h => by simp [DataW.TrodAll] at h
  | _ :: _, _ :: _, [], _, _, h => by simp [DataW.TrodAll] at h
  | t :: ts, v :: vs, d :: ds, ps, ht, h => by
    obtain ⟨p, q, h1, h2, h3⟩ := h
    simp only [List.all_cons, Bool.and_eq_true, decide_eq_true_eq] at ht
    have lt : ∀ x ∈ p, x.block < W.heap.size := by obtain ⟨m, hm⟩ := h1; exact DataW.trod_lt m _ _ _ hm
    exact ⟨p, q, Below.trod hl ht.1.1 ht.1.2 h1 hb lt, trodAll_stays hl hb ht.2 h2, h3⟩

/-- A law of a program without package variables: what its contract comes to. -/
theorem law_post {H : Type} {enc : TypeId × Value → H} {P : Program} {fn : Func} {s : ChangeSpec} {tab : Nat → Option Fn} {f : Nat} {T : List TypeId} {tb : TypeId} (ht : TabOk P tab) (hl : laidOutB P = true) (hT : tyOk P T = true)
    (hp : ∀ t ∈ fn.params.toList, t ∈ T) (hread : (fn.params.toList.all fun t => P.readableRec t && decide (t < P.types.size)) = true) (hres : fn.resultTypes = #[tb]) (htb : P.underlying tb = some .bool) (hvars : s.vars = [])
    (hfn : ∀ (ds : List (DataW H)), ds.length = fn.params.size → s.fn H ds = { results := [.lit (.bool true)], args := ds })
    {W : World} {base : Nat} {args : Array Value} {ds gs : List (DataW H)} {before : List MemPlace} (hval : ∀ (j : Nat) t v, fn.params[j]? = some t → args[j]? = some v → Value.okWide P W .any base t v)
    (hW : DataW.Whole enc P fn.params.toList s.vars false W args.toList ds gs before)
    (hev : ∀ ess : List (List C), ess.length = fn.params.toList.length → cBLL ess ≤ bulkDs ds → (∀ (j : Nat) (t : TypeId) (es : List C), fn.params.toList[j]? = some t → ess[j]? = some es → ∃ n, TypC P n t es) → ∃ outs, Ev tab ⟨fun _ => [], true⟩ f (argsOf P fn.params.toList ess) [] = some ([.s (.bool true)], outs)) (hreal : real f = f := by decide) :
    Calls P f args W fun e W' => ∃ v, e = .returned v ∧ s.post enc P fn false true false false W args v W' := by
  have hW' := hW
  obtain ⟨p, q, hA, hV, rfl, hfz, hnd⟩ := hW
  rw [hvars] at hV
  obtain ⟨rfl, rfl⟩ := trodVars_none hV
  have hlen : ∀ {ts : List TypeId} {vs : List Value} {ds : List (DataW H)} {ps : List MemPlace}, DataW.TrodAll enc P W 0 (fun _ => true) true ts vs ds ps → ds.length = ts.length := by
    intro ts
    induction ts with
    | nil =>
      intro vs ds ps h
      obtain ⟨_, h2, _⟩ := trodAll_nil h
      simp [h2]
    | cons t ts ih =>
      intro vs ds ps h
      obtain ⟨v, vs', d, ds', p, q, _, h2, _, _, h3⟩ := trodAll_cons h
      rw [h2]
      simp [ih h3]
  obtain ⟨ess, a1, a2, a3, a4, a5, a6⟩ := args_in (r := .any) (base := base) hT hp hA fun j t v h1 h2 => hval j t v (by simpa using h1) (by simpa using h2)
  obtain ⟨outs, he⟩ := hev ess a1 a2 a3
  have hc := law_calls (w := W) ht (fun _ => rfl) hreal he a4 a5 a6
  have hargs : args.toList.toArray = args := by simp
  rw [hargs] at hc
  refine hc.mono fun e W' ⟨h1, h2⟩ => ⟨_, h1, ?_⟩
  have hf := hfn ds (by simpa using hlen hA)
  refine ⟨ds, [], _, [], p, [], hW', ?_, ?_, ?_, h2.frame _, fun h => by cases h⟩
  · rw [List.append_nil, hf, hres]
    exact trodAll_mk1 (shut_bool htb _)
  · rw [List.append_nil, hf]
    exact trodAll_stays hl h2 hread hA
  · rw [hvars]
    rw [List.append_nil, hf]
    rfl

/-! ### Shapes of what comes in -/
theorem typ_int {P : Program} {n : Nat} {t : TypeId} {es : List C} {k : IntKind} (hu : P.underlying t = some (.int k)) (h : TypC P n t es) : ∃ i, es = [.sc (.int k i)] ∧ (Lit.int k i).wf = true := by
  cases n with
  | zero => exact h.elim
  | succ n => simp only [TypC, hu] at h; exact h
theorem typ_bool {P : Program} {n : Nat} {t : TypeId} {es : List C} (hu : P.underlying t = some .bool) (h : TypC P n t es) : ∃ b, es = [.sc (.bool b)] := by
  cases n with
  | zero => exact h.elim
  | succ n => simp only [TypC, hu] at h; exact h

theorem ints_of {k : IntKind} : ∀ {es : List C}, (∀ c ∈ es, ∃ i, c = .sc (.int k i) ∧ (Lit.int k i).wf = true) → ∃ l : List Int, l.length = es.length ∧ es = l.map (fun i => .sc (.int k i)) ∧ ∀ i ∈ l, (Lit.int k i).wf = true
  | [], _ => ⟨[], rfl, rfl, fun i h => by simp at h⟩
  | c :: es, h => by
    obtain ⟨i, rfl, hw⟩ := h c (by simp)
    obtain ⟨l, h1, h2, h3⟩ := ints_of (es := es) fun c' hc => h c' (by simp [hc])
    exact ⟨i :: l, by simp [h1], congrArg (C.sc (.int k i) :: ·) h2, fun j hj => by
      rcases List.mem_cons.1 hj with rfl | hj
      · exact hw
      · exact h3 j hj⟩

theorem typ_array {P : Program} {n : Nat} {t e : TypeId} {es : List C} {k : IntKind} {m : Nat} (hu : P.underlying t = some (.array m e)) (he : P.underlying e = some (.int k)) (hc : P.cellsOf e = 1) (ht : P.cellsOf t = m) (h : TypC P n t es) :
    ∃ l : List Int, l.length = m ∧ es = l.map (fun i => .sc (.int k i)) ∧ ∀ i ∈ l, (Lit.int k i).wf = true := by
  cases n with
  | zero => exact h.elim
  | succ n =>
    simp only [TypC, hu] at h
    obtain ⟨h1, h2⟩ := h
    obtain ⟨l, h3, h4, h5⟩ := ints_of (k := k) (es := es) fun c hcm => by
      obtain ⟨i, hi⟩ := List.getElem?_of_mem hcm
      have hlt : i < m := by rw [← ht, ← h1]; exact (List.getElem?_eq_some_iff.1 hi).1
      have := h2 (i * P.cellsOf e, P.cellsOf e, e) (by simp only [chunks, hu, List.mem_map]; exact ⟨i, List.mem_range.2 hlt, rfl⟩)
      obtain ⟨v, h6, h7⟩ := typ_int he this
      rw [hc, Nat.mul_one] at h6
      have h8 := congrArg (fun q : List C => q[0]?) h6
      simp only [List.getElem?_take, List.getElem?_drop, Nat.add_zero, Nat.zero_lt_one, if_true, hi, List.getElem?_cons_zero, Option.some.injEq] at h8
      exact ⟨v, h8, h7⟩
    exact ⟨l, by rw [h3, h1, ht], h4, h5⟩

end Go.Ev
