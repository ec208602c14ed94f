/-
  The region that writes.
-/
import Derived.Test.YtfihodpdjpcpfaaLSpoil4
set_option linter.unusedSimpArgs false
set_option linter.unusedVariables false
set_option maxRecDepth 200000
set_option maxHeartbeats 4000000
namespace Go.Proofs.Ytfihodpdjpcpfaa
open Go.Ev

theorem region_any {P : Program} {G : Cf} {F : FnEv} {x : Cx} {st : St} {a : Act} (hF : FnsOk P G F) {ops : Array Oper} {pairs : List (Nat × Nat)} {an qs : List Opr} (htr : trReg P ops true pairs an = some qs) (hs : RelS G x st a) (hp : okPairs G F pairs qs st = true) {st' : St} (he : evOps G F qs st = some st')
    {Q : Exit → Act → World → Prop} (hQ : ∀ x' a', RelS G x' st' a' → Step (fun _ => True) x st.h x' st'.h → a'.defers = a.defers → Q .normal a' x'.w) :
    P.follows .mixedOrders = true ∧ masksOk ops (Region.before ops).toList = true ∧ wpAny P .any ops Q ops.size (Array.replicate ops.size false) a { x.w with drawn := x.w.drawn + 1 } := by
  unfold trReg at htr
  split at htr
  · rename_i qs' htr'
    split at htr
    · rename_i hc
      simp only [Option.some.injEq] at htr
      subst htr
      obtain ⟨hlen, hat⟩ := trOprs_at htr'
      have hlen' : qs'.length = ops.size := by simpa using hlen
      have hop : ∀ j, j < ops.size → ∃ o an, ops[j]? = some o ∧ trOpr P ops o an = some (opAt qs' j) := fun j hj => by
        have ho : ops[j]? = some ops[j] := Array.getElem?_eq_getElem hj
        obtain ⟨an', h⟩ := hat j ops[j] (by simp)
        exact ⟨_, an', ho, h⟩
      obtain ⟨pn, hpC, hpI, hpp⟩ := okPairs_pn hp
      have hgood := good_of_ops (pn := pn) (op := opAt qs') qs' 0 st st' (fun k => (feet G F qs' st).getD k ([], [])) (fun k hk => by simp [opAt, List.getD, hk]) (fun k hk => by simp) hpC (fun p h1 _ => by rw [Nat.sub_zero]; exact hpI p h1) he
      rw [hlen'] at hgood
      simp only [Bool.not_true, Bool.false_or, Bool.and_eq_true] at hc
      obtain ⟨⟨hmix, hmask⟩, hpairs⟩ := hc
      refine ⟨hmix, hmask, ?_⟩
      have hst0 := Step.sameHeap (x := x) (h := st.h) (w' := { x.w with drawn := x.w.drawn + 1 }) rfl rfl rfl rfl
      have hi0 := hs.inv.sameHeap (w' := { x.w with drawn := x.w.drawn + 1 }) rfl rfl rfl rfl
      have hs0 := hs.step' hi0 hst0
      have hrest : rest ops.size (Array.replicate ops.size false) = List.range' 0 ops.size := by
        rw [← List.range_eq_range']
        exact List.filter_eq_self.2 fun k hk => by
          have := List.mem_range.1 hk
          simp [Array.getD_eq_getD_getElem?, this]
      exact any_ok hF hmask (op := opAt qs') (T := fun k => (feet G F qs' st).getD k ([], [])) hop (fun i j hij hj hb => by
        have h1 := List.all_eq_true.1 (List.all_eq_true.1 hpairs j (List.mem_range.2 hj)) i (List.mem_range.2 hij)
        rw [hb] at h1
        simp only [Bool.false_or, Bool.and_eq_true, Bool.or_eq_true] at h1
        refine ⟨h1.1, ?_⟩
        rcases h1.2 with h2 | h2
        · exact .inl (freePair_disj (G := G) (F := F) (s := st) h2)
        · exact hpp i j hij (by simpa using h2)) (fun x' a' hs' hst' hd' => hQ x' a' hs' (hst0.trans hst') hd') ops.size _ (by rw [hrest]; simp) ⟨by simp, fun j o e _ hl _ _ => by
          by_cases hj : j < ops.size <;> simp [Array.getD_eq_getD_getElem?, hj] at hl⟩ (by rw [hrest]; exact hgood) hs0 (Step.refl _ _ _) rfl
    · simp at htr
  · simp at htr
theorem reg_of {G : Cf} {tab : Nat → Option Ev.Fn} {ns : Nat} {pairs : List (Nat × Nat)} {qs : List Opr} {st st' : St} (h : app tab G ns [] (ex tab G ns (.reg pairs qs) st) = some (.normal, st')) : ∃ n, okPairs G (evN tab G n) pairs qs st = true ∧ evOps G (evN tab G n) qs st = some st' := by
  have he' : evIR G LoopL (Ev tab G) ns (.reg pairs qs) st = some (.normal, st') := h
  obtain ⟨n0, hn⟩ := cont_ir ns _ he'
  have := hn n0 (Nat.le_refl _)
  simp only [evIR] at this
  split at this
  · rename_i hp
    split at this
    · rename_i s1 h1
      simp only [Option.some.injEq, Prod.mk.injEq, true_and] at this
      subst this
      exact ⟨n0, hp, h1⟩
    · simp at this
  · simp at this
/-- Behind the region's reads. -/
abbrev stI (v3 v5 v6 v7 v9 v10 : Value) (ps : List (List Int × List Int)) (i k : Nat) (z : Int) (l m : List Int) : St := ⟨[.undef, .undef, .undef, .s v3, .undef, .s v5, .s v6, .s v7, .sl false (qP ps), .s v9, .s v10, i64 i, i64 k, .undef, .undef, .undef, .undef, .undef, .undef, .undef, .undef, .undef, .undef, .undef, .undef, .undef, .undef, .undef, .undef, .undef, .undef, .undef, .undef, .undef, .undef, .undef, .undef, .undef, .undef, .undef, .undef, .undef, .undef, .undef, .undef, .sl false (qP ps), i64 i, .daddr false [C.sl (eI .u8 l), C.sl (eI .u8 m)], .daddr false [C.sl (eI .u8 m)], .sl false (eI .u8 m), i64 k, .sl false (qP ps), i64 i, .daddr false [C.sl (eI .u8 l), C.sl (eI .u8 m)], .daddr false [C.sl (eI .u8 m)], .sl false (eI .u8 m), i64 k, .daddr false [C.sc (.int .u8 z)], .s (.int .u8 z), .s (.int .u8 (IntKind.u8.wrap (z + 1))), .daddr false [C.sc (.int .u8 z)], .undef, .undef, .undef, .undef, .undef, .undef, .undef, .undef, .undef, .undef, .undef, .undef, .undef, .undef, .undef, .undef, .undef, .undef, .undef, .undef, .undef, .undef, .undef, .undef, .undef, .undef, .undef, .undef, .undef, .undef], [none, none, none]⟩
theorem evalI (v3 v5 v6 v7 v9 v10 : Value) (ps : List (List Int × List Int)) (i k : Nat) (z : Int) (l m : List Int) (hi : i < ps.length) (hp : ps.getD i ([], []) = (l, m)) (hk : k < m.length) (hz : m.getD k 0 = z) :
    app tab G0 3 [] (ex tab G0 3 (.reg [] qsI) (s_law06_ScanStays_K1 (.s v3) (.s v5) (.s v6) (.s v7) (.sl false (qP ps)) (.s v9) (.s v10) (i64 i) (i64 k) [none, none, none])) = some (.normal, stI v3 v5 v6 v7 v9 v10 ps i k z l m) := by
  simp (maxSteps := 1000000) (disch := first | omega | (simp only [List.length_cons, List.length_nil, List.length_append, List.length_map, List.length_take, List.length_drop]; omega)) only [go_sem, ↓reduceIte, Nat.reduceSub, Nat.reduceAdd, Nat.reduceMul, Nat.reduceLeDiff, Nat.reduceLT, Nat.reduceEqDiff, Nat.reduceBEq, Int.reduceLE, Int.reduceLT, Int.reduceEq, Int.reduceNeg, Int.reduceAdd, Int.reduceSub, Int.reduceMul, Int.reduceToNat, qsI, hp, hz]
def isPl : AV → Bool
  | .undef => true
  | .s _ => true
  | _ => false
theorem isPl_rel {x : Cx} {h : Heap} {a : AV} (hp : isPl a = true) {v : Value} {x' : Cx} {h' : Heap} (hr : RelV x h a v) : RelV x' h' a v := by
  cases a <;> simp [isPl] at hp
  · exact .undef v
  · rw [hr.s_inv]; exact .s _
theorem relS_junk {G : Cf} {x : Cx} {st : St} {a : Act} (hs : RelS G x st a) (hh : st.h = [none, none, none]) (hgl : ∀ g, G.G g = []) {w' : World} (hz : w'.heap.size = x.w.heap.size) {l : List (List C)}
    (hpl : (st.t.set 8 .undef).all isPl = true) (h8 : RelV { x with w := w' } st.h (.sl false l) (a.tmps.getD 8 undef)) : RelS G { x with w := w' } ⟨st.t.set 8 (.sl false l), st.h⟩ a := by
  have hno : ∀ id o, getO st.h id = some o → False := fun id o hg => by
    rw [hh] at hg
    match id, hg with
    | 0, hg => simp [getO] at hg
    | 1, hg => simp [getO] at hg
    | 2, hg => simp [getO] at hg
    | id + 3, hg => simp [getO] at hg
  have hall : ∀ i, i ≠ 8 → isPl (st.t.getD i .undef) = true := fun i hi => by
    by_cases hl : i < st.t.length
    · refine List.all_eq_true.1 hpl _ ?_
      refine List.mem_of_getElem? (i := i) ?_
      rw [List.getElem?_set_ne (Ne.symm hi)]
      simp [List.getD, List.getElem?_eq_getElem hl]
    · simp [List.getD, List.getElem?_eq_none (Nat.le_of_not_lt hl), isPl]
  have hget : ∀ i, (st.t.set 8 (.sl false l)).getD i .undef = if i = 8 ∧ 8 < st.t.length then .sl false l else st.t.getD i .undef := fun i => by
    rw [setD_getD]
    by_cases c : 8 = i
    · subst c; simp
    · rw [if_neg (fun h => c h.1), if_neg (fun h => c h.1.symm)]
  exact {
    inv := {
      obj := fun id o hg => (hno id o hg).elim
      inj := fun i j oi oj gi => (hno i oi gi).elim
      own := fun id o hg => (hno id o hg).elim
      sh := fun b o hS => by
        show b < w'.heap.size
        rw [hz]; exact hs.inv.sh b o hS
      live := fun id o hg => (hno id o hg).elim
      glob := fun g j c hg => by rw [hgl] at hg; simp at hg }
    b0 := by
      show x.B0 ≤ w'.heap.size
      rw [hz]; exact hs.b0
    size := by simpa using hs.size
    vals := fun i hi => by
      rw [hget]
      split
      · rename_i c
        rw [c.1]
        exact h8
      · rename_i c
        by_cases h8' : i = 8
        · subst h8'
          exact absurd ⟨rfl, by simpa using hi⟩ c
        · exact isPl_rel (hall i h8') (hs.val i)
    live := fun id hid => by
      obtain ⟨i, h1, h2⟩ := mem_refsL_getD hid
      rw [hget] at h2
      split at h2
      · simp [AV.refs] at h2
      · rename_i c
        by_cases h8' : i = 8
        · subst h8'
          exact absurd ⟨rfl, by simpa using h1⟩ c
        · have := hall i h8'
          cases hv : st.t.getD i .undef <;> rw [hv] at this h2 <;> simp [isPl, AV.refs] at this h2 }

end Go.Proofs.Ytfihodpdjpcpfaa
