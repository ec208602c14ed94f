/-
  The operations that write memory; freezing.
-/
import Derived.Test.YtebiajdkgpcidaaEvOps5
set_option linter.unusedSimpArgs false
set_option linter.unusedVariables false
namespace Go.Ev
section
variable {P : Program} {G : Cf} {x : Cx} {st : St} {a : Act}

theorem wrote_setRow {w : World} {g : Nat} {cur arr : Array Value} {e : TypeId} (hg : w.heap[g]? = some (.cells cur e (0, 0))) : Wrote w (w.setRow g arr) g arr e :=
  ⟨by simp, setRow_heap w g cur arr e _ hg, fun b hb => setRow_other w g b arr hb, rfl, rfl, rfl⟩

/-- A stretch of a list in the place of another. -/
theorem splice_get {α : Type} {l us : List α} {p j : Nat} (h : p + us.length ≤ l.length) : (l.take p ++ us ++ l.drop (p + us.length))[j]? = if j < p then l[j]? else if j < p + us.length then us[j - p]? else l[j]? := by
  by_cases c1 : j < p
  · rw [if_pos c1, List.append_assoc, List.getElem?_append_left (by simp; omega), List.getElem?_take, if_pos c1]
  · rw [if_neg c1]
    have e1 : (l.take p).length = p := by simp; omega
    by_cases c2 : j < p + us.length
    · rw [if_pos c2, List.append_assoc, List.getElem?_append_right (by omega), List.getElem?_append_left (by omega), e1]
    · rw [if_neg c2]
      have e2 : (l.take p ++ us).length = p + us.length := by rw [List.length_append, e1]
      rw [List.getElem?_append_right (by omega), e2, List.getElem?_drop]
      congr 1
      omega

theorem toCs_ok {l : List AV} {cs : List C} (h : toCs l = some cs) : l.all AV.cellOk = true := by
  induction l generalizing cs with
  | nil => rfl
  | cons b l ih =>
    simp only [toCs] at h
    split at h
    · rename_i c r' h5 h6
      have hb : b.cellOk = true := by
        cases b <;> simp only [AV.toC] at h5 <;> first
          | (simp at h5; done)
          | rfl
          | (split at h5
             · simpa [AV.cellOk]
             · simp at h5)
      simp [hb, ih h6]
    · simp at h

theorem store_run {o : Oper} {y z : Operand} {t : TypeId} {sz : Nat} {us : List Value} {g off : Nat} {cur : Array Value} {e : TypeId} (ho : o.op = .store t y z) (h2 : TSize P t sz) (hp : a.eval y = .pointer (some ⟨g, off, none⟩)) (hu : (a.eval z).cells = us.toArray) (hul : us.length = sz)
    (h1 : ∀ v ∈ us, v.oneCell' = true) (hg : x.w.heap[g]? = some (.cells cur e (0, 0))) (hfit : off + us.length ≤ cur.size) :
    (execOp a.eval o).run P x.w = .ok .skip (x.w.setRow g (cur.toList.take off ++ us ++ cur.toList.drop (off + us.length)).toArray) := by
  have hst := run_storeCells_at P g off e us 0 cur x.w hg (by simpa using hfit) h1
  simp only [Nat.add_zero] at hst
  simp only [execOp, ho, Instr.storeAt, Sem.run_bind, hp, Instr.sureAddr, Sem.run_pure, Result.andThen_ok, storeVar, sizeOf_run h2]
  rw [if_neg (by simp [hu, hul])]
  simp [hu, hst]

theorem store_ok {o : Oper} {y z : Operand} {t : TypeId} {sz : Nat} {F : FnEv} (ho : o.op = .store t y z) (h2 : TSize P t sz) (hs : RelS G x st a) {v : AV} {h' : Heap} (he : evW G st.t F st.h (.store sz (trO y) (trO z)) = some (v, h')) :
    OpOk P o a G x st.h v h' := by
  have hr := hs.opd y
  simp only [evW] at he
  split at he
  · rename_i hc
    obtain ⟨us, hu, hcell⟩ := cells_rel (hs.opd z) hc.2
    have hul : us.length = sz := by rw [← hcell.len]; exact hc.1
    split at he
    · rename_i id off hq
      rw [hq] at hr
      split at he
      · rename_i cells hg
        split at he
        · rename_i hle
          injection he with he
          injection he with h3 h4
          subst h3 h4
          obtain ⟨arr, e, hb, hsz, hrel⟩ := hs.inv.obj id _ hg
          cases hr with
          | ptr id off u hv hr =>
            have hp := hr cells hg
            have hlt := getO_lt (by rw [hg]; rfl : (getO st.h id).isSome)
            intro K Q hK
            unfold Oper.wp
            rw [store_run ho h2 hp hu hul hcell.one hb (by omega)]
            have hw : Wrote x.w (x.w.setRow (x.φ id) (arr.toList.take off ++ us ++ arr.toList.drop (off + us.length)).toArray) (x.φ id) (arr.toList.take off ++ us ++ arr.toList.drop (off + us.length)).toArray e := wrote_setRow hb
            generalize hw' : x.w.setRow (x.φ id) (arr.toList.take off ++ us ++ arr.toList.drop (off + us.length)).toArray = w' at hw ⊢
            generalize hcs : cells.take off ++ (rho G st.t (trO z)).cells ++ cells.drop (off + sz) = cs' at hK ⊢
            have hev : Evo x st.h { x with w := w' } (st.h.set id (some (.var cs'))) id := by
              refine ⟨fun c hc' => ⟨⟨cells, hg⟩, rfl⟩, fun e s o f l hc' => ?_⟩
              rw [getO_set hlt, if_pos rfl] at hc'
              simp at hc'
            have hst := Step.write hs.inv hw hg trivial hev
            have hsub : ∀ (i : Nat) (b : AV), cs'[i]? = some b → (∃ j : Nat, cells[j]? = some b) ∨ (∃ j : Nat, (rho G st.t (trO z)).cells[j]? = some b) := fun i b hb' => by
              rw [← hcs] at hb'
              have := List.mem_of_getElem? hb'
              simp only [List.mem_append] at this
              rcases this with (h5 | h5) | h5
              · exact .inl (List.getElem?_of_mem (List.mem_of_mem_take h5))
              · exact .inr (List.getElem?_of_mem h5)
              · exact .inl (List.getElem?_of_mem (List.mem_of_mem_drop h5))
            have hlive : ∀ (i : Nat) (b : AV), cs'[i]? = some b → ∀ j ∈ b.refs, (getO st.h j).isSome := fun i b hb' j hj => by
              rcases hsub i b hb' with ⟨k, hk⟩ | ⟨k, hk⟩
              · exact hs.inv.live id _ hg j (mem_refsL hk hj)
              · exact hs.opdRefs z j (cells_refs (mem_refsL hk hj))
            refine hK _ undef (hs.inv.write hw hg trivial hev ?_ fun j hj => ?_) hst (.s _) (by simp [AV.refs])
            · refine ⟨_, e, hw.new, ?_, fun i b hb' => ?_⟩
              · rw [← hcs]
                simp [hcell.len]
                omega
              · have hi : i < cs'.length := (List.getElem?_eq_some_iff.1 hb').1
                have hb2 := hb'
                rw [← hcs] at hb'
                have hcl := hcell.len
                rw [show off + sz = off + (rho G st.t (trO z)).cells.length by omega, splice_get (by omega)] at hb'
                rw [List.getElem?_toArray, splice_get (by simp; omega)]
                by_cases c1 : i < off
                · rw [if_pos c1] at hb' ⊢
                  obtain ⟨v, h5, h6, h7⟩ := hrel i b hb'
                  exact ⟨v, by simpa using h5, h6, h7.step hst fun j hj => ⟨trivial, hlive i b hb2 j hj⟩⟩
                · rw [if_neg c1] at hb' ⊢
                  by_cases c2 : i < off + us.length
                  · rw [if_pos (by omega)] at hb'
                    rw [if_pos c2]
                    have hi' : i - off < us.length := by omega
                    exact ⟨us[i - off], List.getElem?_eq_getElem hi', hcell.one _ (List.getElem_mem hi'), (hcell.rel _ b _ hb' (List.getElem?_eq_getElem hi')).step hst fun j hj => ⟨trivial, hlive i b hb2 j hj⟩⟩
                  · rw [if_neg (by omega)] at hb'
                    rw [if_neg c2]
                    obtain ⟨v, h5, h6, h7⟩ := hrel i b hb'
                    exact ⟨v, by simpa using h5, h6, h7.step hst fun j hj => ⟨trivial, hlive i b hb2 j hj⟩⟩
            · obtain ⟨i, b, h5, h6⟩ := mem_refsL_iff.1 hj
              exact (hst.evo j trivial (hlive i b h5 j h6)).2
        · simp at he
      · simp at he
    · rename_i id n i k hq
      rw [hq] at hr
      split at he
      · rename_i e s old l hrow
        obtain ⟨hg, hlen⟩ := rowAt_inv hrow
        split at he
        · rename_i el cs hel hcs
          split at he
          · rename_i hle
            injection he with he
            injection he with h3 h4
            subst h3 h4
            obtain ⟨arr, hb, hsz, hcap, hmax, hpos, h6, h7, h8, _, h10⟩ := hs.inv.obj id _ hg
            have hlt := getO_lt (by rw [hg]; rfl : (getO st.h id).isSome)
            have hi : i < l.length := (List.getElem?_eq_some_iff.1 hel).1
            have hels := h6 el (List.mem_of_getElem? hel)
            have hm : (i + 1) * s ≤ arr.size := by rw [hsz]; exact Nat.mul_le_mul_right _ (by omega)
            rw [Nat.add_mul, Nat.one_mul] at hm
            obtain ⟨hcl, hcr⟩ := toCs_rel hcell.len hcell.rel hcs
            have holdz : isOldL (rho G st.t (trO z)).cells = true → (rho G st.t (trO z)).isOld = true := by
              generalize rho G st.t (trO z) = q
              cases q <;> simp [AV.cells, isOldL, AV.isOld]
            cases hr with
            | eptr id n i k u hv _ hr =>
              have hp := hr _ _ _ _ _ hg hlen
              intro K Q hK
              unfold Oper.wp
              rw [store_run ho h2 hp hu hul hcell.one hb (by omega)]
              have hw : Wrote x.w (x.w.setRow (x.φ id) (arr.toList.take (i * s + k) ++ us ++ arr.toList.drop (i * s + k + us.length)).toArray) (x.φ id) (arr.toList.take (i * s + k) ++ us ++ arr.toList.drop (i * s + k + us.length)).toArray e := wrote_setRow hb
              generalize x.w.setRow (x.φ id) (arr.toList.take (i * s + k) ++ us ++ arr.toList.drop (i * s + k + us.length)).toArray = w' at hw ⊢
              generalize hl' : l.set i (el.take k ++ cs ++ el.drop (k + sz)) = l' at hK ⊢
              have hlen' : l'.length = l.length := by rw [← hl']; simp
              have hev : Evo x st.h { x with w := w' } (st.h.set id (some (.row e s (old || (rho G st.t (trO z)).isOld) false l'))) id := by
                refine ⟨fun c hc' => ?_, fun e' s' o' f' l'' hc' => ?_⟩
                · rw [getO_set hlt, if_pos rfl] at hc'
                  simp at hc'
                · rw [getO_set hlt, if_pos rfl] at hc'
                  injection hc' with hc'
                  injection hc' with e1 e2 e3 e4 e5
                  subst e1 e2 e5
                  exact ⟨old, false, l, hg, by omega, fun _ => ⟨rfl, rfl⟩⟩
              have hst := Step.write hs.inv hw hg rfl hev
              refine hK _ undef (hs.inv.write hw hg rfl hev ?_ (by simp [Obj.refs])) hst (.s _) (by simp [AV.refs])
              refine ⟨_, hw.new, ?_, ?_, hmax, hpos, fun f hf => ?_, fun v hv => ?_, fun i' k' f c h11 h12 => ?_, fun h => by simp at h, fun h => ?_⟩
              · simp only [List.size_toArray, List.length_append, List.length_take, List.length_drop, Array.length_toList]
                omega
              · rw [hlen']; exact hcap
              · rw [← hl'] at hf
                rcases List.mem_or_eq_of_mem_set hf with hf | hf
                · exact h6 f hf
                · rw [hf]
                  simp only [List.length_append, List.length_take, List.length_drop]
                  omega
              · simp only [List.mem_toArray, List.mem_append] at hv
                rcases hv with (hv | hv) | hv
                · exact h7 v (by simpa using List.mem_of_mem_take hv)
                · exact hcell.one v hv
                · exact h7 v (by simpa using List.mem_of_mem_drop hv)
              · rw [List.getElem?_toArray, splice_get (by simp; omega)]
                have old_case : ∀ (f' : List C), l[i']? = some f' → f'[k']? = some c → ∃ v, arr.toList[i' * s + k']? = some v ∧ Rep w' (Cx.sh { x with w := w' } (old || (rho G st.t (trO z)).isOld)) c v := fun f' hf' hc' => by
                  obtain ⟨v, h13, h14⟩ := h8 i' k' f' c hf' hc'
                  exact ⟨v, by simpa using h13, (h14.mono (hst.ext.sh old)).mono fun b o hS => ⟨sh_le hS fun h => by simp [h], rfl⟩⟩
                by_cases hii : i = i'
                · subst hii
                  rw [← hl', List.getElem?_set_self hi] at h11
                  injection h11 with h11
                  subst h11
                  rw [show k + sz = k + cs.length by omega, splice_get (by omega)] at h12
                  by_cases c1 : k' < k
                  · rw [if_pos c1] at h12
                    rw [if_pos (by omega)]
                    exact old_case el hel h12
                  · rw [if_neg c1] at h12
                    rw [if_neg (by omega)]
                    by_cases c2 : k' < k + cs.length
                    · rw [if_pos c2] at h12
                      rw [if_pos (by omega)]
                      obtain ⟨v, h13, h14⟩ := hcr _ c h12
                      refine ⟨v, ?_, (h14.mono (hst.ext.sh _)).mono fun b o hS => ⟨sh_le hS fun h => by simp [holdz h], rfl⟩⟩
                      rw [show i * s + k' - (i * s + k) = k' - k by omega]
                      exact h13
                    · rw [if_neg c2] at h12
                      rw [if_neg (by omega)]
                      exact old_case el hel h12
                · rw [← hl', List.getElem?_set_ne hii] at h11
                  have hk' : k' < s := by
                    have := (List.getElem?_eq_some_iff.1 h12).1
                    rw [h6 f (List.mem_of_getElem? h11)] at this
                    exact this
                  obtain ⟨v, h13, h14⟩ := old_case f h11 h12
                  refine ⟨v, ?_, h14⟩
                  rcases Nat.lt_or_gt_of_ne hii with hlt' | hgt'
                  · have hm2 : (i + 1) * s ≤ i' * s := Nat.mul_le_mul_right _ hlt'
                    rw [Nat.add_mul, Nat.one_mul] at hm2
                    rw [if_neg (by omega), if_neg (by omega)]
                    exact h13
                  · have hm2 : (i' + 1) * s ≤ i * s := Nat.mul_le_mul_right _ hgt'
                    rw [Nat.add_mul, Nat.one_mul] at hm2
                    rw [if_pos (by omega)]
                    exact h13
              · simp only [Bool.or_eq_false_iff] at h
                exact h10 h.1
          · simp at he
        · simp at he
      · simp at he
    · simp at he
  · simp at he

end
end Go.Ev
