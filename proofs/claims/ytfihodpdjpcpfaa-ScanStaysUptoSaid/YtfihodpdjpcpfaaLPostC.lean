/-
  A law's row, out of its contract.
-/
import Derived.Test.YtfihodpdjpcpfaaLSpoil13
set_option linter.unusedSimpArgs false
set_option linter.unusedVariables false
set_option maxRecDepth 200000
set_option maxHeartbeats 4000000
namespace Go.Proofs.Ytfihodpdjpcpfaa
open Go.Ev

open Go.RowKit Go.ChangeShapes Go.WideShapes Go.ChangeAt
theorem law_callsC {P : Program} {f : Nat} {args : List AV} {outs : List Ev.Obj} {w : World} {vals : List Value} (hc : Contract P ⟨fun _ => [], true, noX⟩ f args [] [.s (.bool true)] outs)
    (hl : args.length = vals.length) (hr : ∀ (j : Nat) (b : AV) (v : Value), args[j]? = some b → vals[j]? = some v → RelV (cx0 w) [] b v) (hn : refsL args = []) :
    Calls P f vals.toArray w fun e w' => e = .returned (.bool true) ∧ Below w.heap.size w w' := by
  have hc := hc (cx0 w) vals rfl (inv0 (fun _ => rfl) w) hl hr fun id hid => by rw [hn] at hid; simp at hid
  refine hc.mono fun e w' ⟨us, h1, x', h2, post⟩ => ?_
  have hlen := post.len
  match us, hlen with
  | [u], _ =>
    have := (post.rel 0 _ u rfl rfl).s_inv
    subst this
    refine ⟨h1, ?_⟩
    subst h2
    exact ⟨post.step.os, post.step.tape, post.step.output, post.step.size, fun k hk => post.step.frame k hk fun id o h => by simp [getO] at h⟩
theorem law_postC {H : Type} {enc : TypeId × Value → H} {P : Program} {fn : Func} {s : ChangeSpec} {f : Nat} {T : List TypeId} {tb : TypeId} (hl : laidOutB P = true) (hT : tyOk P T = true)
    (hp : ∀ t ∈ fn.params.toList, t ∈ T) (hread : (fn.params.toList.all fun t => P.readableRec t && decide (t < P.types.size)) = true) (hres : fn.resultTypes = #[tb]) (htb : P.underlying tb = some .bool) (hvars : s.vars = [])
    (hfn : ∀ (ds : List (DataW H)), ds.length = fn.params.size → s.fn H ds = { results := [.lit (.bool true)], args := ds })
    {W : World} {base : Nat} {args : Array Value} {ds gs : List (DataW H)} {before : List MemPlace} (hval : ∀ (j : Nat) t v, fn.params[j]? = some t → args[j]? = some v → Value.okWide P W .any base t v)
    (hW : DataW.Whole enc P fn.params.toList s.vars false W args.toList ds gs before)
    (hev : ∀ ess : List (List C), ess.length = fn.params.toList.length → cBLL ess ≤ bulkDs ds → (∀ (j : Nat) (t : TypeId) (es : List C), fn.params.toList[j]? = some t → ess[j]? = some es → ∃ n, TypC P n t es) → ∃ outs, Contract P ⟨fun _ => [], true, noX⟩ f (argsOf P fn.params.toList ess) [] [.s (.bool true)] outs) :
    Calls P f args W fun e W' => ∃ v, e = .returned v ∧ s.post enc P fn false true false false W args v W' := by
  have hW' := hW
  obtain ⟨p, q, hA, hV, rfl, hfz, hnd⟩ := hW
  rw [hvars] at hV
  obtain ⟨rfl, rfl⟩ := trodVars_none hV
  have hlen : ∀ {ts : List TypeId} {vs : List Value} {ds : List (DataW H)} {ps : List MemPlace}, DataW.TrodAll enc P W 0 (fun _ => true) true ts vs ds ps → ds.length = ts.length := by
    intro ts
    induction ts with
    | nil =>
      intro vs ds ps h
      obtain ⟨_, h2, _⟩ := trodAll_nil h
      simp [h2]
    | cons t ts ih =>
      intro vs ds ps h
      obtain ⟨v, vs', d, ds', p, q, _, h2, _, _, h3⟩ := trodAll_cons h
      rw [h2]
      simp [ih h3]
  obtain ⟨ess, a1, a2, a3, a4, a5, a6⟩ := args_in (r := .any) (base := base) hT hp hA fun j t v h1 h2 => hval j t v (by simpa using h1) (by simpa using h2)
  obtain ⟨outs, he⟩ := hev ess a1 a2 a3
  have hc := law_callsC (w := W) he a4 a5 a6
  have hargs : args.toList.toArray = args := by simp
  rw [hargs] at hc
  refine hc.mono fun e W' ⟨h1, h2⟩ => ⟨_, h1, ?_⟩
  have hf := hfn ds (by simpa using hlen hA)
  refine ⟨ds, [], _, [], p, [], hW', ?_, ?_, ?_, h2.frame _, fun h => by cases h⟩
  · rw [List.append_nil, hf, hres]
    exact trodAll_mk1 (shut_bool htb _)
  · rw [List.append_nil, hf]
    exact trodAll_stays hl h2 hread hA
  · rw [hvars]
    rw [List.append_nil, hf]
    rfl

end Go.Proofs.Ytfihodpdjpcpfaa
