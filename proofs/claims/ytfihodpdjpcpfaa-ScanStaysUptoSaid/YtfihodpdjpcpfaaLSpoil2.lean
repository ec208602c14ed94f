/-
  A region in any order: the last operation is taken out.
-/
import Derived.Test.YtfihodpdjpcpfaaLSpoil
set_option linter.unusedSimpArgs false
set_option linter.unusedVariables false
set_option maxRecDepth 200000
set_option maxHeartbeats 4000000
namespace Go.Proofs.Ytfihodpdjpcpfaa
open Go.Ev

/-- Nothing but what ends well. -/
def onlyN (G : Act → World → Prop) : Exit → Act → World → Prop
  | .normal, a, w => G a w
  | _, _, _ => False
theorem onlyN_out {G : Act → World → Prop} : ¬ LetsOut (onlyN G) := fun ⟨_, _, h⟩ => h
theorem wp_onlyN {P : Program} {o : Oper} {a : Act} {w : World} {G : Act → World → Prop} {K K' : Act → World → Prop} {Q : Exit → Act → World → Prop} (h : ∀ a w, K a w → K' a w) (hh : o.wp P a w K (onlyN G)) : o.wp P a w K' Q := by
  unfold Oper.wp at *
  generalize (execOp a.eval o).run P w = r at *
  cases r with
  | ok n w' =>
    cases n <;> simp only [Oper.upon] at hh ⊢ <;>
      first
        | exact h _ _ hh
        | exact Calls.mono hh (fun e w'' he => by
            cases e with
            | returned v => exact h _ _ he
            | panicked c => exact he.elim
            | outgrown => exact (onlyN_out he).elim)
        | exact Rows.mono hh (fun _ _ he => h _ _ he)
  | halt x w' => cases x <;> simp only [Oper.upon] at hh ⊢ <;> exact hh.elim
theorem ready_all {ops : Array Oper} {listed : Array Bool} (h : ∀ i, i < ops.size → listed.getD i true = true) : Region.ready .any ops listed = [] := by
  unfold Region.ready
  rw [List.filter_eq_nil_iff]
  intro i hi
  rw [h i (List.mem_range.1 hi)]
  simp
/-- The last operation comes after all; another that does nothing may stand for it. -/
theorem any_last {P : Program} {ops : Array Oper} {M : List Nat} (hm : masksOk ops M = true) {n : Nat} (hn : ops.size = n + 1) {o d : Oper} (ho : ops[n]? = some o) (hall : ∀ j, j < n → ∃ e ∈ o.after, e.on = j ∧ Region.binds .any e = true) (hda : d.after = o.after)
    (hg : ∀ (i : Nat) (p : Oper), ops[i]? = some p → p.guard = none) (hdg : d.guard = none) {v : Value} (hd0 : ∀ (a : Act) (w : World), (execOp a.eval d).run P w = .ok (.value v) w) (hdd : d.dst = none)
    {G : Act → World → Prop} {Q : Exit → Act → World → Prop} (hst : ∀ a w, G a w → o.wp P a w (fun a w => Q .normal a w) Q) :
    ∀ (fuel : Nat) (listed : Array Bool) (a : Act) (w : World), (rest ops.size listed).length ≤ fuel → Down ops listed → listed.getD n false = false → wpAny P .any (ops.setIfInBounds n d) (onlyN G) fuel listed a w → wpAny P .any ops Q fuel listed a w := by
  have hw : ∀ (p : Oper) (f : Nat → Option Bool), p.guard = none → Region.wanted p f = true := fun p f hp => by
    unfold Region.wanted
    rw [hp]
  have hsame : ∀ listed, Region.ready .any (ops.setIfInBounds n d) listed = Region.ready .any ops listed := fun listed => by
    unfold Region.ready
    rw [Array.size_setIfInBounds]
    refine List.filter_congr fun i _ => ?_
    congr 1
    rw [Array.getElem?_setIfInBounds]
    by_cases c : n = i
    · subst c
      rw [if_pos rfl, if_pos (by omega), ho]
      simp [hda]
    · rw [if_neg c]
  have hmem : ∀ listed : Array Bool, Down ops listed → listed.getD n false = false → n ∈ rest ops.size listed := fun listed hd hl => by
    refine List.mem_filter.2 ⟨List.mem_range.2 (by omega), ?_⟩
    have : n < listed.size := by rw [hd.size]; omega
    rw [Array.getD_eq_getD_getElem?, Array.getElem?_eq_getElem this] at hl ⊢
    simpa using hl
  intro fuel
  induction fuel with
  | zero =>
    intro listed a w hr hd hl h
    have := hmem listed hd hl
    rw [List.eq_nil_of_length_eq_zero (Nat.le_zero.1 hr)] at this
    simp at this
  | succ fuel ih =>
    intro listed a w hr hd hl h
    refine ⟨fun hn' => ?_, fun i hi => ?_⟩
    · have := hmem listed hd hl
      rw [ready_nil hm hd hn'] at this
      simp at this
    · obtain ⟨h1, oi, hoi, ha⟩ := ready_mem hi
      have h2 := h.2 i (by rw [hsame]; exact hi)
      obtain ⟨r1, r2, hrr⟩ := List.append_of_mem h1
      obtain ⟨h3, _, _⟩ := rest_set hd.size hrr
      have hfu : (rest ops.size (listed.setIfInBounds i true)).length ≤ fuel := by
        rw [h3]
        rw [hrr] at hr
        simp at hr ⊢
        omega
      have hls : n < listed.size := by rw [hd.size]; omega
      unfold wpOp at h2 ⊢
      rw [hoi]
      simp only [hw oi _ (hg i oi hoi), if_true]
      by_cases c : n = i
      · subst c
        rw [ho] at hoi
        injection hoi with hoi
        subst hoi
        rw [Array.getElem?_setIfInBounds, if_pos rfl, if_pos (by omega)] at h2
        simp only [hw d _ hdg, if_true] at h2
        have h4 := h2.resolve_right fun x => onlyN_out x.2
        unfold Oper.wp at h4
        rw [hd0 a w, Oper.upon_value, hdd] at h4
        have hall2 : ∀ i, i < ops.size → (listed.setIfInBounds n true).getD i true = true := fun i hi => by
          by_cases c : n = i
          · subst c
            simp [Array.getD_eq_getD_getElem?, hls]
          · obtain ⟨e, he, he1, he2⟩ := hall i (by omega)
            have h5 := ha e he he2
            rw [he1] at h5
            rw [Array.getD_eq_getD_getElem?, Array.getElem?_setIfInBounds_ne c]
            have : i < listed.size := by rw [hd.size]; exact hi
            rw [Array.getD_eq_getD_getElem?, Array.getElem?_eq_getElem this] at h5
            rw [Array.getElem?_eq_getElem this]
            simpa using h5
        have hz : Region.ready .any ops (listed.setIfInBounds n true) = [] := ready_all hall2
        have hG : G a w := by
          cases fuel with
          | zero => exact h4.2
          | succ fuel => exact h4.1 (by rw [hsame]; exact hz)
        refine .inl (Oper.wp_mono (fun a' w' hq => ?_) (hst a w hG))
        cases fuel with
        | zero => exact ⟨hz, hq⟩
        | succ fuel => exact ⟨fun _ => hq, fun j hj => by rw [hz] at hj; simp at hj⟩
      · rw [Array.getElem?_setIfInBounds, if_neg c, hoi] at h2
        simp only [hw oi _ (hg i oi hoi), if_true] at h2
        have h4 := h2.resolve_right fun x => onlyN_out x.2
        refine .inl (wp_onlyN (fun a' w' hk => ?_) h4)
        refine ih _ a' w' hfu (hd.set hoi ha) ?_ hk
        rw [Array.getD_eq_getD_getElem?, Array.getElem?_setIfInBounds_ne (fun h => c h.symm), ← Array.getD_eq_getD_getElem?]
        exact hl

end Go.Proofs.Ytfihodpdjpcpfaa
