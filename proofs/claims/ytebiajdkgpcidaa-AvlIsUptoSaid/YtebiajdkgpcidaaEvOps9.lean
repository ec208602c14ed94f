/-
  The mark on the bytes of a constant text.
-/
import Derived.Test.YtebiajdkgpcidaaEvOps8
set_option linter.unusedSimpArgs false
set_option linter.unusedVariables false
namespace Go.Ev

section
variable {P : Program} {G : Cf} {x : Cx} {st : St} {a : Act}

theorem freeze_heap {w : World} {b n : Nat} {arr : Array Value} {e : TypeId} (hb : w.heap[b]? = some (.cells arr e (0, 0))) :
    (w.freeze ⟨b, n, none⟩ 1).heap[b]? = some (.cells arr e (n, n + 1)) ∧ ∀ k, k ≠ b → (w.freeze ⟨b, n, none⟩ 1).heap[k]? = w.heap[k]? := by
  unfold World.freeze
  rw [if_neg (by decide)]
  refine ⟨?_, fun k hk => ?_⟩
  · simp only [Array.getElem?_modify, if_true, hb, Option.map_some]
    rfl
  · simp only [Array.getElem?_modify]
    rw [if_neg (fun h => hk h.symm)]

theorem markb_ok {o : Oper} {y : Operand} {t e : TypeId} {F : FnEv} (ho : o.op = .convert t t y) (h1 : P.underlying t = some (.slice e)) (h2 : P.underlying e = some (.int .u8)) (hs : RelS G x st a) {v : AV} {h' : Heap}
    (hev : evW G st.t F st.h (.markb (trO y)) = some (v, h')) : OpOk P o a G x st.h v h' := by
  have hr := hs.opd y
  simp only [evW] at hev
  split at hev
  · rename_i id n hq
    rw [hq] at hr
    split at hev
    · rename_i e0 s0 o' l hrow
      injection hev with hev
      injection hev with e1 e2
      subst e1 e2
      obtain ⟨hg, hlen⟩ := rowAt_inv hrow
      obtain ⟨arr, hb, hsz, hcap, hmax, hpos, h6, h7, h8, _, h10⟩ := hs.inv.obj id _ hg
      have hlt := getO_lt (by rw [hg]; rfl : (getO st.h id).isSome)
      cases hr with
      | row id n u hv hle hr =>
        have hu := hr _ _ _ _ _ hg hlen
        subst hlen
        let w' := x.w.freeze ⟨x.φ id, arr.size, none⟩ 1
        obtain ⟨f1, f2⟩ := freeze_heap (n := arr.size) hb
        have hmeta : w'.os = x.w.os ∧ w'.tape = x.w.tape ∧ w'.output = x.w.output ∧ w'.heap.size = x.w.heap.size := by
          simp only [w', World.freeze]
          rw [if_neg (by decide)]
          simp
        have hrun : (execOp a.eval o).run P x.w = .ok (.value (.slice (some ⟨x.φ id, 0, none⟩) l.length (x.κ id))) w' := by
          have hsh : x.w.shape? (x.φ id) = some (e0, arr.size) := by
            unfold World.shape?
            rw [hb]
          simp [execOp, ho, hu, convert, run_underlying h1, run_underlying h2, markStringish, hsh, w']
        let x' : Cx := { x with w := w', S := fun b q => x.S b q ∨ (b = x.φ id ∧ q < l.length * s0) }
        have hne : ∀ b q, x.S b q → b ≠ x.φ id := fun b q hS hb' => hs.inv.own id _ hg rfl q (hb' ▸ hS)
        have hext : Ext x x' := ⟨rfl, fun b q hS => ⟨.inl hS, by simp only [x', World.cell?, f2 b (hne b q hS)]; rw [show w'.heap[b]? = x.w.heap[b]? from f2 b (hne b q hS)]⟩⟩
        have hget : ∀ j, getO (st.h.set id (some .dead)) j = if j = id then some .dead else getO st.h j := fun j => getO_set hlt j
        have hst : Step (fun _ => True) x st.h x' (st.h.set id (some .dead)) := {
          ext := hext
          size := by simp only [x', hmeta.2.2.2]; exact Nat.le_refl _
          evo := fun j _ hj => by
            by_cases c : j = id
            · subst c
              refine ⟨⟨fun cs hc => ?_, fun e s o f l' hc => ?_⟩, by rw [hget, if_pos rfl]; rfl⟩
              · rw [hget, if_pos rfl] at hc; simp at hc
              · rw [hget, if_pos rfl] at hc; simp at hc
            · exact ⟨.same (by rw [hget, if_neg c]) rfl rfl, by rw [hget, if_neg c]; exact hj⟩
          frame := fun b hb' hm => f2 b fun hbe => hm id _ hg rfl hbe.symm
          sgrow := fun b q hS => hS.elim .inl fun hS => .inr (.inl ⟨id, _, hg, trivial, rfl, hS.1.symm⟩)
          fresh := fun j ob hg' hmut => by
            by_cases c : j = id
            · rw [hget, if_pos c] at hg'
              injection hg' with hg'
              subst hg'
              exact hmut.elim
            · rw [hget, if_neg c] at hg'
              exact .inl ⟨j, ob, hg', hmut, rfl⟩
          frow := fun j ob hg' hrow => by
            by_cases c : j = id
            · rw [hget, if_pos c] at hg'
              injection hg' with hg'
              subst hg'
              exact hrow.elim
            · rw [hget, if_neg c] at hg'
              exact .inl ⟨j, ob, hg', hrow, fun h => h, rfl⟩
          os := hmeta.1
          tape := hmeta.2.1
          output := hmeta.2.2.1 }
        have hinv : Inv G x' (st.h.set id (some .dead)) := by
          refine hs.inv.update id hst (fun j c => by rw [hget, if_neg c]) (fun _ _ => rfl) (fun _ _ => rfl) (fun j ob c hgj hd => ?_) (fun j ob c hgj hmut q hS => ?_) (fun b q hS => ?_) (fun ob hg' => ?_)
          · exact f2 _ fun hbe => c (hs.inv.inj j id _ _ hgj hg hd (by simp) hbe)
          · rcases hS with hS | hS
            · exact hs.inv.own j ob hgj hmut q hS
            · exact c (hs.inv.inj j id _ _ hgj hg (Obj.mut_ne hmut) (by simp) hS.1)
          · simp only [x', hmeta.2.2.2]
            rcases hS with hS | hS
            · exact hs.inv.sh b q hS
            · rw [hS.1]; exact block_lt hs.inv hg (by simp)
          · rw [hget, if_pos rfl] at hg'
            injection hg' with hg'
            subst hg'
            exact ⟨trivial, by simp [Obj.refs], fun hm => hm.elim, fun hd => absurd rfl hd⟩
        intro K Q hK
        unfold Oper.wp
        rw [hrun]
        refine hK x' _ hinv hst ?_ (by simp [AV.refs])
        refine .sl o' l _ ?_
        by_cases hne0 : l = []
        · subst hne0
          exact .nil _ _ (by simp)
        · have hle1 : l.length * s0 ≤ arr.size := by rw [hsz]; exact Nat.mul_le_mul_right _ hcap
          refine .sl l s0 (x.φ id) 0 _ (fun j => arr.getD j undef) hne0 h6 hcap (fun j hj => ⟨⟨.inr ⟨rfl, by omega⟩, ?_⟩, ?_⟩) fun i k el c h11 h12 => ?_
          · cases o' with
            | true => exact .inl rfl
            | false => exact .inr (h10 rfl)
          · have : j < arr.size := by omega
            rw [Nat.zero_add]
            simp only [x', World.cell?]
            rw [show w'.heap[x.φ id]? = _ from f1]
            simp [Array.getD, this]
          · obtain ⟨v, h13, h14⟩ := h8 i k el c h11 h12
            simpa [Array.getD_eq_getD_getElem?, h13] using h14.mono (hext.sh o')
    · simp at hev
  · simp at hev

end
end Go.Ev
