/-
  Regions of the model: what the evaluator says of them is what the model does, in whatever order.
-/
import Derived.Test.YtebiajdkgpcidaaEvReg
set_option linter.unusedSimpArgs false
set_option linter.unusedVariables false
namespace Go.Ev

/-! ### The translation -/
def Op1.nb : Op1 → Bool
  | .bcall _ _ _ => false
  | _ => true
def trGuard (ops : Array Oper) : Option (Nat × Bool) → Option (Option (Nat × Bool))
  | none => some none
  | some (j, b) => match (ops[j]?).bind (·.dst) with
    | some d => some (some (d, b))
    | none => none
def trOpr (P : Program) (ops : Array Oper) (o : Oper) (an : Opr) : Option Opr := match tr1 P o.op an.op, trGuard ops o.guard with
  | some q, some g => if q.nb then some ⟨o.dst, q, g, an.fz⟩ else none
  | _, _ => none
def trOprs (P : Program) (ops : Array Oper) : List Oper → List Opr → Option (List Opr)
  | [], [] => some []
  | o :: l, an :: m => match trOpr P ops o an, trOprs P ops l m with
    | some q, some r => some (q :: r)
    | _, _ => none
  | _, _ => none

def Op1.noFp : Op1 → Bool
  | .new _ _ | .box _ _ _ | .lit _ _ _ _ _ _ | .make _ _ _ _ _ _ _ => false
  | .qcall _ _ outs => outs.isEmpty
  | .load _ _ _ | .b2s _ | .cmpb _ _ | .ia _ _ _ | .len _ _ | .store _ _ _ | .call _ _ _ | .callv _ _ _ | .bcall _ _ _ | .app _ _ _ _ _ _ | .appz _ _ _ _ _ _ _ | .trunc _ _ _ | .markb _ => false
  | _ => true
def free1 (o : Opr) : Bool := o.fz.isEmpty && o.op.noFp
def rdonly (o : Opr) : Bool := o.fz.isEmpty && decide (o.op.cls = .r)
def freePair (p q : Opr) : Bool := free1 p || free1 q || (rdonly p && rdonly q)

def masksOk (ops : Array Oper) (M : List Nat) : Bool := (List.range ops.size).all fun j => match ops[j]? with
  | none => false
  | some o => (o.after.toList.all fun e => !Region.binds .any e || decide (e.on < j)) &&
      (List.range j).all fun i => !(M.getD j 0).testBit i || o.after.toList.any fun e => Region.binds .any e && (e.on == i || (decide (i < e.on) && (M.getD e.on 0).testBit i))
def opAt (qs : List Opr) (i : Nat) : Opr := qs.getD i ⟨none, .mv (.t 0), none, []⟩
def pairsOk (n : Nat) (qs : List Opr) (pairs : List (Nat × Nat)) (M : List Nat) : Bool := (List.range n).all fun j => (List.range j).all fun i =>
  (M.getD j 0).testBit i || (apart (opAt qs i) (opAt qs j) && (freePair (opAt qs i) (opAt qs j) || pairs.contains (i, j)))
def trReg (P : Program) (ops : Array Oper) (draw : Bool) (pairs : List (Nat × Nat)) (an : List Opr) : Option (List Opr) := match trOprs P ops ops.toList an with
  | some qs => if !draw || (P.follows .mixedOrders && masksOk ops (Region.before ops).toList && pairsOk ops.size qs pairs (Region.before ops).toList) then some qs else none
  | none => none

section
variable {P : Program} {G : Cf} {F : FnEv} {x : Cx} {st : St} {a : Act}

theorem guard_ok {ops : Array Oper} {o : Oper} {g : Option (Nat × Bool)} (htr : trGuard ops o.guard = some g) (hs : RelS G x st a) {b : Bool} (hg : guardOf st.t g = some b) : Region.wanted o (yielded ops a.tmps) = b := by
  unfold trGuard at htr
  split at htr
  · rename_i h0
    simp only [Option.some.injEq] at htr
    subst htr
    simp only [guardOf, Option.some.injEq] at hg
    subst hg
    simp [Region.wanted, h0]
  · rename_i j w h0
    split at htr
    · rename_i d hd
      simp only [Option.some.injEq] at htr
      subst htr
      have hv := hs.val d
      simp only [guardOf] at hg
      simp only [Region.wanted, h0, yielded, hd, Option.bind_some]
      split at hg
      · rename_i c hc
        rw [hc] at hv
        have := hv.s_inv
        simp only [Option.some.injEq] at hg
        subst hg
        have h1 : a.tmps[d]? = some (.bool c) := by
          rw [Array.getD_eq_getD_getElem?] at this
          cases h2 : a.tmps[d]? with
          | none => rw [h2] at this; simp [undef] at this
          | some u => rw [h2] at this; simpa using this
        rw [h1]
        cases c <;> cases w <;> rfl
      · rename_i l hc
        rw [hc] at hv
        have := hv.s_inv
        simp only [Option.some.injEq] at hg
        subst hg
        rw [Array.getD_eq_getD_getElem?] at this
        cases h2 : a.tmps[d]? with
        | none => rfl
        | some u =>
          rw [h2] at this
          simp at this
          subst this
          rfl
      · simp at hg
    · simp at htr

theorem relS_setD {x : Cx} {st : St} {a : Act} (hs : RelS G x st a) (d : Option Nat) {v : AV} {u : Value} (hv : RelV x st.h v u) (hl : ∀ id ∈ v.refs, (getO st.h id).isSome) : RelS G x ⟨setD st.t d v, st.h⟩ (a.put d u) := by
  cases d with
  | none => exact hs
  | some d => exact hs.put d hv hl

theorem put_defers (a : Act) (d : Option Nat) (u : Value) : (a.put d u).defers = a.defers := by cases d <;> rfl

theorem evOp_ok (hF : FnsOk P G F) {ops : Array Oper} {i : Nat} {o : Oper} {an q : Opr} (ho : ops[i]? = some o) (htr : trOpr P ops o an = some q) (hs : RelS G x st a) {st' : St} (he : evOp G F q st = some st')
    {K : Act → World → Prop} {Q : Exit → Act → World → Prop} (hK : ∀ x' a', RelS G x' st' a' → Step (fun _ => True) x st.h x' st'.h → a'.defers = a.defers → K a' x'.w) : wpOp P ops Q i K a x.w := by
  unfold trOpr at htr
  split at htr
  · rename_i op1 g h1 h2
    split at htr
    · simp only [Option.some.injEq] at htr
      subst htr
      unfold wpOp
      simp only [ho]
      simp only [evOp] at he
      split at he
      · rename_i hg
        rw [if_pos (guard_ok h2 hs hg)]
        split at he
        · rename_i st1 hf
          obtain ⟨x1, f1, hs1⟩ := frzTs_ok an.fz hs hf
          split at he
          · rename_i v h3 h4
            simp only [Option.some.injEq] at he
            subst he
            left
            have := ev1_ok hF h1 hs1 h4
            rw [← f1.w]
            refine this K Q fun x' u hi hst hr hl => ?_
            refine hK x' _ (relS_setD (st := ⟨st1.t, h3⟩) (hs1.step' hi hst) o.dst hr hl) (f1.step.trans hst) (put_defers _ _ _)
          · simp at he
        · simp at he
      · rename_i hg
        rw [if_neg (by rw [guard_ok h2 hs hg]; simp)]
        simp only [Option.some.injEq] at he
        subst he
        exact hK x _ (relS_setD hs o.dst (.s undef) (by simp [AV.refs])) (Step.refl _ _ _) (put_defers _ _ _)
      · simp at he
    · simp at htr
  · simp at htr

theorem nb_ok {ops : Array Oper} {o : Oper} {an q : Opr} (htr : trOpr P ops o an = some q) : ∀ f as outs, q.op ≠ .bcall f as outs := fun f as outs hc => by
  unfold trOpr at htr
  split at htr
  · split at htr
    · rename_i h
      simp only [Option.some.injEq] at htr
      subst htr
      simp only at hc
      subst hc
      simp [Op1.nb] at h
    · simp at htr
  · simp at htr

theorem trOprs_at {ops : Array Oper} : ∀ {l : List Oper} {an qs : List Opr}, trOprs P ops l an = some qs → qs.length = l.length ∧ ∀ (i : Nat) (o : Oper), l[i]? = some o → ∃ an', trOpr P ops o an' = some (opAt qs i)
  | [], [], qs, h => by
    simp only [trOprs, Option.some.injEq] at h
    subst h
    exact ⟨rfl, fun i o h => by simp at h⟩
  | [], _ :: _, qs, h => by simp [trOprs] at h
  | _ :: _, [], qs, h => by simp [trOprs] at h
  | o :: l, an :: m, qs, h => by
    simp only [trOprs] at h
    split at h
    · rename_i q r h1 h2
      simp only [Option.some.injEq] at h
      subst h
      obtain ⟨h3, h4⟩ := trOprs_at h2
      refine ⟨by simp [h3], fun i o' ho => ?_⟩
      cases i with
      | zero =>
        simp at ho
        subst ho
        exact ⟨an, by simpa [opAt] using h1⟩
      | succ i =>
        obtain ⟨an', h5⟩ := h4 i o' (by simpa using ho)
        exact ⟨an', by simpa [opAt] using h5⟩
    · simp at h

theorem good_wp (hF : FnsOk P G F) {ops : Array Oper} {op : Nat → Opr} {T : Nat → List Nat × List Nat} {sf : St} {Q : Exit → Act → World → Prop} {x0 : Cx} {h0 : Heap} {d0 : List Deferred}
    (hQ : ∀ x' a', RelS G x' sf a' → Step (fun _ => True) x0 h0 x' sf.h → a'.defers = d0 → Q .normal a' x'.w) :
    ∀ (R : List Nat) {x : Cx} {s : St} {a : Act}, (∀ j ∈ R, ∃ o an, ops[j]? = some o ∧ trOpr P ops o an = some (op j)) → Good G F op T sf R s → RelS G x s a → Step (fun _ => True) x0 h0 x s.h → a.defers = d0 → wpOps P ops Q R a x.w
  | [], x, s, a, _, hg, hs, hst, hd => by
    obtain rfl : s = sf := hg
    exact hQ x a hs hst hd
  | j :: R, x, s, a, ho, hg, hs, hst, hd => by
    obtain ⟨s1, h1, _, h2⟩ := hg
    obtain ⟨o, an, h3, h4⟩ := ho j (by simp)
    rw [wpOps_cons]
    exact evOp_ok hF h3 h4 hs h1 fun x' a' hs' hst' hd' => good_wp hF hQ R (fun k hk => ho k (by simp [hk])) h2 hs' (hst.trans hst') (hd'.trans hd)

/-! ### What is not listed yet -/
def rest (n : Nat) (listed : Array Bool) : List Nat := (List.range n).filter fun k => !listed.getD k true

theorem rest_set {n : Nat} {listed : Array Bool} (hl : listed.size = n) {r1 r2 : List Nat} {i : Nat} (h : rest n listed = r1 ++ i :: r2) : rest n (listed.setIfInBounds i true) = r1 ++ r2 ∧ (∀ j ∈ r1, j < i) ∧ (∀ j ∈ r1, listed.getD j true = false) := by
  have hp : (rest n listed).Pairwise (· < ·) := List.Pairwise.filter _ List.pairwise_lt_range
  rw [h] at hp
  obtain ⟨p1, p2, p3⟩ := List.pairwise_append.1 hp
  have hi1 : ∀ j ∈ r1, j < i := fun j hj => p3 j hj i (by simp)
  have hi2 : ∀ j ∈ r2, i < j := (List.pairwise_cons.1 p2).1
  refine ⟨?_, hi1, fun j hj => ?_⟩
  · have h1 : rest n (listed.setIfInBounds i true) = (rest n listed).filter fun k => decide (k ≠ i) := by
      unfold rest
      rw [List.filter_filter]
      apply List.filter_congr
      intro k hk
      have hkn : k < n := List.mem_range.1 hk
      by_cases c : k = i
      · subst c
        simp [Array.getD_eq_getD_getElem?, hl, hkn]
      · have : (listed.setIfInBounds i true)[k]? = listed[k]? := Array.getElem?_setIfInBounds_ne (fun e => c e.symm)
        simp [Array.getD_eq_getD_getElem?, this, c]
    rw [h1, h, List.filter_append, List.filter_cons_of_neg (by simp)]
    congr 1
    · exact List.filter_eq_self.2 fun j hj => by have := hi1 j hj; simp; omega
    · exact List.filter_eq_self.2 fun j hj => by have := hi2 j hj; simp; omega
  · have : j ∈ rest n listed := by rw [h]; simp [hj]
    simpa [rest] using (List.mem_filter.1 this).2

structure Down (ops : Array Oper) (listed : Array Bool) : Prop where
  size : listed.size = ops.size
  closed : ∀ (j : Nat) (o : Oper) (e : Edge), ops[j]? = some o → listed.getD j false = true → e ∈ o.after → Region.binds .any e = true → listed.getD e.on false = true

theorem masks_listed {ops : Array Oper} {M : List Nat} (hm : masksOk ops M = true) {listed : Array Bool} (hd : Down ops listed) : ∀ (i : Nat) (o : Oper), ops[i]? = some o → (∀ e ∈ o.after, Region.binds .any e = true → listed.getD e.on false = true) →
    ∀ j, j < i → (M.getD i 0).testBit j = true → listed.getD j false = true := by
  intro i
  induction i using Nat.strongRecOn with
  | _ i ih =>
    intro o ho ha j hj hb
    have hi : i < ops.size := (Array.getElem?_eq_some_iff.1 ho).1
    have h1 := List.all_eq_true.1 hm i (List.mem_range.2 hi)
    rw [ho] at h1
    simp only [Bool.and_eq_true] at h1
    obtain ⟨h2, h3⟩ := h1
    have h4 := List.all_eq_true.1 h3 j (List.mem_range.2 hj)
    rw [hb] at h4
    simp only [Bool.not_true, Bool.false_or] at h4
    obtain ⟨e, he, h5⟩ := List.any_eq_true.1 h4
    simp only [Bool.and_eq_true, Bool.or_eq_true, beq_iff_eq, decide_eq_true_eq] at h5
    obtain ⟨h6, h7⟩ := h5
    have hea : e ∈ o.after := by simpa using he
    have hl := ha e hea h6
    rcases h7 with h7 | ⟨h7, h8⟩
    · rw [← h7]; exact hl
    · have h9 := List.all_eq_true.1 h2 e he
      rw [h6] at h9
      simp only [Bool.not_true, Bool.false_or, decide_eq_true_eq] at h9
      have hlt : e.on < ops.size := by omega
      exact ih e.on h9 ops[e.on] (Array.getElem?_eq_getElem hlt) (fun e' he' hb' => hd.closed e.on _ e' (Array.getElem?_eq_getElem hlt) hl he' hb') j h7 h8

theorem ready_mem {ops : Array Oper} {listed : Array Bool} {i : Nat} (h : i ∈ Region.ready .any ops listed) : i ∈ rest ops.size listed ∧ ∃ o, ops[i]? = some o ∧ ∀ e ∈ o.after, Region.binds .any e = true → listed.getD e.on false = true := by
  unfold Region.ready at h
  obtain ⟨h1, h2⟩ := List.mem_filter.1 h
  simp only [Bool.and_eq_true] at h2
  refine ⟨List.mem_filter.2 ⟨h1, h2.1⟩, ?_⟩
  have hi : i < ops.size := List.mem_range.1 h1
  have ho : ops[i]? = some ops[i] := Array.getElem?_eq_getElem hi
  refine ⟨ops[i], ho, fun e he hb => ?_⟩
  have h3 := h2.2
  rw [ho] at h3
  simp only [Option.map_some, Option.getD_some, Array.all_eq_true'] at h3
  have h4 := h3 e he
  rw [hb] at h4
  simpa using h4

theorem ready_nil {ops : Array Oper} {M : List Nat} (hm : masksOk ops M = true) {listed : Array Bool} (hd : Down ops listed) (h : Region.ready .any ops listed = []) : rest ops.size listed = [] := by
  cases hr : rest ops.size listed with
  | nil => rfl
  | cons i r =>
    obtain ⟨_, h1, _⟩ := rest_set hd.size (r1 := []) hr
    have hi : i ∈ rest ops.size listed := by rw [hr]; simp
    obtain ⟨hi1, hi2⟩ := List.mem_filter.1 hi
    have hlt : i < ops.size := List.mem_range.1 hi1
    have ho : ops[i]? = some ops[i] := Array.getElem?_eq_getElem hlt
    have hmem : i ∈ Region.ready .any ops listed := by
      unfold Region.ready
      refine List.mem_filter.2 ⟨hi1, ?_⟩
      simp only [Bool.and_eq_true]
      refine ⟨hi2, ?_⟩
      rw [ho]
      simp only [Option.map_some, Option.getD_some, Array.all_eq_true']
      intro e he
      have h1 := List.all_eq_true.1 hm i (List.mem_range.2 hlt)
      rw [ho] at h1
      simp only [Bool.and_eq_true] at h1
      have h9 := List.all_eq_true.1 h1.1 e (by simpa using he)
      cases hb : Region.binds .any e with
      | false => rfl
      | true =>
        rw [hb] at h9
        simp only [Bool.not_true, Bool.false_or, decide_eq_true_eq] at h9
        simp only [Bool.not_true, Bool.false_or]
        -- e.on is smaller than the least that is not listed
        cases hg : listed.getD e.on false with
        | true => rfl
        | false =>
          have hmr : e.on ∈ rest ops.size listed := List.mem_filter.2 ⟨List.mem_range.2 (by omega), by
            have : e.on < listed.size := by rw [hd.size]; omega
            rw [Array.getD_eq_getD_getElem?, Array.getElem?_eq_getElem this] at hg ⊢
            simpa using hg⟩
          have hp : (rest ops.size listed).Pairwise (· < ·) := List.Pairwise.filter _ List.pairwise_lt_range
          rw [hr] at hp hmr
          rcases List.mem_cons.1 hmr with hc | hc
          · omega
          · have := (List.pairwise_cons.1 hp).1 _ hc
            omega
    rw [h] at hmem
    simp at hmem

theorem Down.set {ops : Array Oper} {listed : Array Bool} (hd : Down ops listed) {i : Nat} {o : Oper} (ho : ops[i]? = some o) (ha : ∀ e ∈ o.after, Region.binds .any e = true → listed.getD e.on false = true) : Down ops (listed.setIfInBounds i true) := by
  have grow : ∀ k, listed.getD k false = true → (listed.setIfInBounds i true).getD k false = true := fun k hk => by
    by_cases c : i = k
    · subst c
      have : i < listed.size := by rw [hd.size]; exact (Array.getElem?_eq_some_iff.1 ho).1
      simp [Array.getD_eq_getD_getElem?, this]
    · rw [Array.getD_eq_getD_getElem?, Array.getElem?_setIfInBounds_ne c, ← Array.getD_eq_getD_getElem?]; exact hk
  refine ⟨by simp [hd.size], fun j o' e hj hl he hb => ?_⟩
  by_cases c : i = j
  · subst c
    rw [ho] at hj
    injection hj with hj
    subst hj
    exact grow _ (ha e he hb)
  · rw [Array.getD_eq_getD_getElem?, Array.getElem?_setIfInBounds_ne c, ← Array.getD_eq_getD_getElem?] at hl
    exact grow _ (hd.closed j o' e hj hl he hb)

theorem any_ok (hF : FnsOk P G F) {ops : Array Oper} {M : List Nat} (hm : masksOk ops M = true) {op : Nat → Opr} {T : Nat → List Nat × List Nat} {sf : St} {Q : Exit → Act → World → Prop} {x0 : Cx} {h0 : Heap} {d0 : List Deferred}
    (hop : ∀ j, j < ops.size → ∃ o an, ops[j]? = some o ∧ trOpr P ops o an = some (op j)) (hnb : ∀ j f as outs, (op j).op ≠ .bcall f as outs)
    (hap : ∀ i j, i < j → j < ops.size → (M.getD j 0).testBit i = false → apart (op i) (op j) = true ∧ disj (T i) (T j) = true)
    (hQ : ∀ x' a', RelS G x' sf a' → Step (fun _ => True) x0 h0 x' sf.h → a'.defers = d0 → Q .normal a' x'.w) :
    ∀ (fuel : Nat) (listed : Array Bool) {x : Cx} {s : St} {a : Act}, (rest ops.size listed).length ≤ fuel → Down ops listed → Good G F op T sf (rest ops.size listed) s → RelS G x s a → Step (fun _ => True) x0 h0 x s.h → a.defers = d0 →
      wpAny P .any ops Q fuel listed a x.w
  | 0, listed, x, s, a, hl, hd, hg, hs, hst, hdf => by
    have hr : rest ops.size listed = [] := by
      cases h : rest ops.size listed with
      | nil => rfl
      | cons i r => rw [h] at hl; simp at hl
    rw [hr] at hg
    obtain rfl : s = sf := hg
    refine ⟨?_, hQ x a hs hst hdf⟩
    cases h : Region.ready .any ops listed with
    | nil => rfl
    | cons i r =>
      have := (ready_mem (i := i) (by rw [h]; simp)).1
      rw [hr] at this
      simp at this
  | fuel + 1, listed, x, s, a, hl, hd, hg, hs, hst, hdf => by
    refine ⟨fun hn => ?_, fun i hi => ?_⟩
    · rw [ready_nil hm hd hn] at hg
      obtain rfl : s = sf := hg
      exact hQ x a hs hst hdf
    · obtain ⟨h1, o, ho, ha⟩ := ready_mem hi
      obtain ⟨r1, r2, hr⟩ := List.append_of_mem h1
      obtain ⟨h2, h3, h4⟩ := rest_set hd.size hr
      rw [hr] at hg hl
      have hi' : i < ops.size := (Array.getElem?_eq_some_iff.1 ho).1
      obtain ⟨s1, g1, g2, g3⟩ := Good.bubble hnb r1 s hg fun j hj => hap j i (h3 j hj) hi' (by
        cases hb : (M.getD i 0).testBit j with
        | false => rfl
        | true =>
          have h5 := masks_listed hm hd i o ho ha j (h3 j hj) hb
          have h6 := h4 j hj
          have hlt : j < listed.size := by have := h3 j hj; rw [hd.size]; omega
          rw [Array.getD_eq_getD_getElem?, Array.getElem?_eq_getElem hlt] at h5 h6
          simp at h5 h6
          rw [h5] at h6
          simp at h6)
      obtain ⟨o', an, ho', htr⟩ := hop i hi'
      refine evOp_ok hF ho' htr hs g1 fun x' a' hs' hst' hd' => ?_
      refine any_ok hF hm hop hnb hap hQ fuel (listed.setIfInBounds i true) (by rw [h2]; simp at hl ⊢; omega) (hd.set ho ha) (by rw [h2]; exact g3) hs' (hst.trans hst') (hd'.trans hdf)

/-! ### Footprints that need no look -/
theorem noFp_ok {o : Op1} (h : o.noFp = true) (t : List AV) (k : Heap) : fp G t k o = [] := by
  cases o <;> simp only [Op1.noFp] at h <;> first
    | rfl
    | (simp at h; done)
    | (simp only [fp]; simpa using h)

theorem free1_foot {o : Opr} (h : free1 o = true) (s : St) : foot G o s = ([], []) := by
  simp only [free1, Bool.and_eq_true, List.isEmpty_iff] at h
  unfold foot
  split
  · split
    · simp [h.1, noFp_ok h.2]
    · rfl
  · rfl
theorem rdonly_foot {o : Opr} (h : rdonly o = true) (s : St) : (foot G o s).2 = [] := by
  simp only [rdonly, Bool.and_eq_true, List.isEmpty_iff, decide_eq_true_eq] at h
  unfold foot
  split
  · split
    · simp [h.1, h.2]
    · rfl
  · rfl

theorem feet_get : ∀ (qs : List Opr) (s : St) (k : Nat), (feet G F qs s).getD k ([], []) = ([], []) ∨ ∃ s', (feet G F qs s).getD k ([], []) = foot G (opAt qs k) s'
  | [], s, k => .inl (by simp [feet])
  | q :: qs, s, 0 => .inr ⟨s, by simp [feet, opAt]⟩
  | q :: qs, s, k + 1 => by
    simp only [feet, List.getD_cons_succ]
    cases h : evOp G F q s with
    | none => exact .inl (by simp)
    | some s1 =>
      rcases feet_get qs s1 k with h1 | ⟨s', h1⟩
      · exact .inl h1
      · exact .inr ⟨s', by simpa [opAt] using h1⟩

theorem disj_nil_left (b : List Nat × List Nat) : disj ([], []) b = true := by simp [disj, disjL]
theorem disj_nil_right (b : List Nat × List Nat) : disj b ([], []) = true := by simp [disj, disjL]

theorem freePair_disj {qs : List Opr} {s : St} {i j : Nat} (h : freePair (opAt qs i) (opAt qs j) = true) : disj ((feet G F qs s).getD i ([], [])) ((feet G F qs s).getD j ([], [])) = true := by
  rcases feet_get (G := G) (F := F) qs s i with h1 | ⟨s1, h1⟩
  · rw [h1]; exact disj_nil_left _
  · rcases feet_get (G := G) (F := F) qs s j with h2 | ⟨s2, h2⟩
    · rw [h2]; exact disj_nil_right _
    · rw [h1, h2]
      simp only [freePair, Bool.or_eq_true, Bool.and_eq_true] at h
      rcases h with (h | h) | h
      · rw [free1_foot h]; exact disj_nil_left _
      · rw [free1_foot h]; exact disj_nil_right _
      · have e1 := rdonly_foot (G := G) h.1 s1
        have e2 := rdonly_foot (G := G) h.2 s2
        simp [disj, disjL, e1, e2]

/-! ### A region -/
theorem region_ok (hF : FnsOk P G F) {id : Nat} {ops : Array Oper} {draw : Bool} {pairs : List (Nat × Nat)} {an qs : List Opr} (htr : trReg P ops draw pairs an = some qs) (hs : RelS G x st a) (hp : okPairs G F pairs qs st = true) {st' : St} (he : evOps G F qs st = some st')
    {Q : Exit → Act → World → Prop} (hQ : ∀ x' a', RelS G x' st' a' → Step (fun _ => True) x st.h x' st'.h → a'.defers = a.defers → Q .normal a' x'.w) : (Code.region id ops draw).wp P Q a x.w := by
  unfold trReg at htr
  split at htr
  · rename_i qs' htr'
    split at htr
    · rename_i hc
      simp only [Option.some.injEq] at htr
      subst htr
      obtain ⟨hlen, hat⟩ := trOprs_at htr'
      have hlen' : qs'.length = ops.size := by simpa using hlen
      have hop : ∀ j, j < ops.size → ∃ o an, ops[j]? = some o ∧ trOpr P ops o an = some (opAt qs' j) := fun j hj => by
        have ho : ops[j]? = some ops[j] := Array.getElem?_eq_getElem hj
        obtain ⟨an', h⟩ := hat j ops[j] (by simp)
        exact ⟨_, an', ho, h⟩
      have hnb : ∀ j f as outs, (opAt qs' j).op ≠ .bcall f as outs := fun j => by
        by_cases hj : j < ops.size
        · obtain ⟨o, an, _, h⟩ := hop j hj
          exact nb_ok h
        · have : opAt qs' j = ⟨none, .mv (.t 0), none, []⟩ := by simp [opAt, List.getD, List.getElem?_eq_none (show qs'.length ≤ j by omega)]
          rw [this]
          simp
      have hgood := good_of_ops (op := opAt qs') qs' 0 st st' (fun k => (feet G F qs' st).getD k ([], [])) (fun k hk => by simp [opAt, List.getD, hk]) (fun k hk => by simp) he
      rw [hlen'] at hgood
      cases draw with
      | false =>
        refine wp_region ?_
        rw [List.range_eq_range']
        exact good_wp hF hQ _ (fun j hj => hop j (by simpa [List.mem_range'] using hj)) hgood hs (Step.refl _ _ _) rfl
      | true =>
        simp only [Bool.not_true, Bool.false_or, Bool.and_eq_true] at hc
        obtain ⟨⟨hmix, hmask⟩, hpairs⟩ := hc
        refine wp_region_any hmix ?_
        have hst0 := Step.sameHeap (x := x) (h := st.h) (w' := { x.w with drawn := x.w.drawn + 1 }) rfl rfl rfl rfl
        have hi0 := hs.inv.sameHeap (w' := { x.w with drawn := x.w.drawn + 1 }) rfl rfl rfl rfl
        have hs0 := hs.step' hi0 hst0
        have hrest : rest ops.size (Array.replicate ops.size false) = List.range' 0 ops.size := by
          rw [← List.range_eq_range']
          exact List.filter_eq_self.2 fun k hk => by
            have := List.mem_range.1 hk
            simp [Array.getD_eq_getD_getElem?, this]
        exact any_ok hF hmask (op := opAt qs') (T := fun k => (feet G F qs' st).getD k ([], [])) hop hnb (fun i j hij hj hb => by
          have h1 := List.all_eq_true.1 (List.all_eq_true.1 hpairs j (List.mem_range.2 hj)) i (List.mem_range.2 hij)
          rw [hb] at h1
          simp only [Bool.false_or, Bool.and_eq_true, Bool.or_eq_true] at h1
          refine ⟨h1.1, ?_⟩
          rcases h1.2 with h2 | h2
          · exact freePair_disj (G := G) (F := F) (s := st) h2
          · exact List.all_eq_true.1 hp (i, j) (by simpa using h2)) (fun x' a' hs' hst' hd' => hQ x' a' hs' (hst0.trans hst') hd') ops.size _ (by rw [hrest]; simp) ⟨by simp, fun j o e _ hl _ _ => by
            by_cases hj : j < ops.size <;> simp [Array.getD_eq_getD_getElem?, hj] at hl⟩ (by rw [hrest]; exact hgood) hs0 (Step.refl _ _ _) rfl
    · simp at htr
  · simp at htr

end
end Go.Ev
