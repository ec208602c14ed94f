/-
  A law's row where package-level tables are laid.
-/
import Derived.Test.YtfbipgidlecmkaaDoorEvLaw2
import Derived.Lib.LaidTab
import Derived.LaidSub
set_option linter.unusedSimpArgs false
set_option linter.unusedVariables false
namespace Go.Ev
open Go.RowKit Go.ChangeShapes Go.WideShapes Go.ChangeAt

/-- What package-level variables hold when a call begins. -/
def GlobOk (G : Cf) (w : World) : Prop := ∀ (g j : Nat) (c : C), (G.G g)[j]? = some c → g < w.heap.size ∧ ∃ v, w.cell? ⟨g, j, none⟩ = some v ∧ Rep w (allOld w) c v

theorem invG {G : Cf} {w : World} (hG : GlobOk G w) : Inv G (cx0 w) [] where
  obj := fun id o h => by simp [getO] at h
  inj := fun i j oi oj h => by simp [getO] at h
  own := fun id o h => by simp [getO] at h
  sh := fun b o h => h
  live := fun id o h => by simp [getO] at h
  glob := fun g j c h => hG g j c h

theorem law_callsG {P : Program} {G : Cf} {tab : Nat → Option Fn} (ht : TabOk P tab) (hg : G.gf = false) {w : World} (hG : GlobOk G w) {f : Nat} {args : List AV} {outs : List Obj} {vals : List Value} (he : Ev tab G f args [] = some ([.s (.bool true)], outs))
    (hl : args.length = vals.length) (hr : ∀ (j : Nat) (b : AV) (v : Value), args[j]? = some b → vals[j]? = some v → RelV (cx0 w) [] b v) (hn : refsL args = []) :
    Calls P f vals.toArray w fun e w' => e = .returned (.bool true) ∧ Below w.heap.size w w' := by
  have hc := Ev_ok ht (fun h => by rw [hg] at h; cases h) he (cx0 w) vals rfl (invG hG) hl hr fun id hid => by rw [hn] at hid; simp at hid
  refine hc.mono fun e w' ⟨us, h1, x', h2, post⟩ => ?_
  have hlen := post.len
  match us, hlen with
  | [u], _ =>
    have := (post.rel 0 _ u rfl rfl).s_inv
    subst this
    refine ⟨h1, ?_⟩
    subst h2
    exact ⟨post.step.os, post.step.tape, post.step.output, post.step.size, fun k hk => post.step.frame k hk fun id o h => by simp [getO] at h⟩

/-- A law of a program with package variables that are laid. -/
theorem law_postG {H : Type} {enc : TypeId × Value → H} {P : Program} {fn : Func} {s : ChangeSpec} {tab : Nat → Option Fn} {G : Cf} {f : Nat} {T : List TypeId} {tb : TypeId} (ht : TabOk P tab) (hg : G.gf = false) (hl : laidOutB P = true) (hT : tyOk P T = true)
    (hp : ∀ t ∈ fn.params.toList, t ∈ T) (hread : (fn.params.toList.all fun t => P.readableRec t && decide (t < P.types.size)) = true) (hres : fn.resultTypes = #[tb]) (htb : P.underlying tb = some .bool) (hvars : s.vars = [])
    (hfn : ∀ (ds : List (DataW H)), ds.length = fn.params.size → s.fn H ds = { results := [.lit (.bool true)], args := ds })
    {W : World} {base : Nat} {args : Array Value} {ds gs : List (DataW H)} {before : List MemPlace} (hG : GlobOk G W) (hval : ∀ (j : Nat) t v, fn.params[j]? = some t → args[j]? = some v → Value.okWide P W .any base t v)
    (hW : DataW.Whole enc P fn.params.toList s.vars false W args.toList ds gs before)
    (hev : ∀ ess : List (List C), ess.length = fn.params.toList.length → cBLL ess ≤ bulkDs ds → (∀ (j : Nat) (t : TypeId) (es : List C), fn.params.toList[j]? = some t → ess[j]? = some es → ∃ n, TypC P n t es) → ∃ outs, Ev tab G f (argsOf P fn.params.toList ess) [] = some ([.s (.bool true)], outs)) :
    Calls P f args W fun e W' => ∃ v, e = .returned v ∧ s.post enc P fn false true false false W args v W' := by
  have hW' := hW
  obtain ⟨p, q, hA, hV, rfl, hfz, hnd⟩ := hW
  rw [hvars] at hV
  obtain ⟨rfl, rfl⟩ := trodVars_none hV
  have hlen : ∀ {ts : List TypeId} {vs : List Value} {ds : List (DataW H)} {ps : List MemPlace}, DataW.TrodAll enc P W 0 (fun _ => true) true ts vs ds ps → ds.length = ts.length := by
    intro ts
    induction ts with
    | nil =>
      intro vs ds ps h
      obtain ⟨_, h2, _⟩ := trodAll_nil h
      simp [h2]
    | cons t ts ih =>
      intro vs ds ps h
      obtain ⟨v, vs', d, ds', p, q, _, h2, _, _, h3⟩ := trodAll_cons h
      rw [h2]
      simp [ih h3]
  obtain ⟨ess, a1, a2, a3, a4, a5, a6⟩ := args_in (r := .any) (base := base) hT hp hA fun j t v h1 h2 => hval j t v (by simpa using h1) (by simpa using h2)
  obtain ⟨outs, he⟩ := hev ess a1 a2 a3
  have hc := law_callsG (w := W) ht hg hG he a4 a5 a6
  have hargs : args.toList.toArray = args := by simp
  rw [hargs] at hc
  refine hc.mono fun e W' ⟨h1, h2⟩ => ⟨_, h1, ?_⟩
  have hf := hfn ds (by simpa using hlen hA)
  refine ⟨ds, [], _, [], p, [], hW', ?_, ?_, ?_, h2.frame _, fun h => by cases h⟩
  · rw [List.append_nil, hf, hres]
    exact trodAll_mk1 (shut_bool htb _)
  · rw [List.append_nil, hf]
    exact trodAll_stays hl h2 hread hA
  · rw [hvars]
    rw [List.append_nil, hf]
    rfl

/-- A table's cells. -/
def cellsI (k : IntKind) (l : List Int) : List C := l.map fun n => .sc (.int k n)
theorem cells_of_tab {P : Program} {w : World} {name : String} {k : IntKind} {zs : List Int} {g j : Nat} {c : C} (h : Lib.TabIs P w name k zs) (hg : P.globalNamed name = some g) (hc : (cellsI k zs)[j]? = some c) :
    g < w.heap.size ∧ ∃ v, w.cell? ⟨g, j, none⟩ = some v ∧ Rep w (allOld w) c v := by
  simp only [cellsI, List.getElem?_map, Option.map_eq_some_iff] at hc
  obtain ⟨z, hz, rfl⟩ := hc
  have hj : j < zs.length := (List.getElem?_eq_some_iff.1 hz).1
  have h1 := h.cell hg j hj
  have hd : zs.getD j 0 = z := by simp [List.getD, hz]
  rw [hd] at h1
  refine ⟨(cell_lt h1).1, _, h1, ?_⟩
  exact Rep.sc _ (by rfl)
end Go.Ev
