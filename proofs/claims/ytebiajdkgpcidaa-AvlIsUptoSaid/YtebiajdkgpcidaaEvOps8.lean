/-
  append of zeros; a row that is cut short; freezing.
-/
import Derived.Test.YtebiajdkgpcidaaEvOps7
set_option linter.unusedSimpArgs false
set_option linter.unusedVariables false
namespace Go.Ev
section
variable {P : Program} {G : Cf} {x : Cx} {st : St} {a : Act}

theorem zeroCells_made {z : Array Value} {n sz : Nat} (h : z.size = sz) : Builtin.zeroCells z n = madeCells z (n * sz) := by
  subst h
  rfl

theorem appz_ok {o : Oper} {y z : Operand} {t t2 e : TypeId} {k2 : IntKind} {s sz bytes : Nat} {zs : List Value} {F : FnEv} (ho : o.op = .call { callee := .builtin .append, args := #[y, z], argTypes := #[t, t2] }) (h1 : P.underlying t = some (.slice e)) (h2 : P.underlying t2 = some (.int k2))
    (he : TElem P e sz bytes zs) (hs : RelS G x st a) {v : AV} {h' : Heap} (hev : evW G st.t F st.h (.appz s e sz bytes zs (trO y) (trO z)) = some (v, h')) : OpOk P o a G x st.h v h' := by
  have hr := hs.opd y
  have hrz := hs.opd z
  have hrun : ∀ r w', (Builtin.append_ #[t, t2] o.type #[a.eval y, a.eval z]).run P x.w = .ok r w' → (execOp a.eval o).run P x.w = .ok (.value r) w' := fun r w' h => by
    simp [execOp, ho, resolve, invoke, builtin, h]
  obtain ⟨i, zv, h3, h4, h5, h6, h7⟩ := he.info
  obtain ⟨_, _, h8, h9, h10, hzo⟩ := he.zero
  rw [h3] at h8
  injection h8 with h8
  subst h8
  rw [h4] at h9
  injection h9 with h9
  subst h9
  have hzs : zv.cells.size = sz := by rw [← he.len, ← h5]; simp
  have hti : ∀ w, (typeInfo e).run P w = .ok i w := fun w => by simp [typeInfo, h3]
  have hzr : ∀ w, (zeroValue e).run P w = .ok zv w := fun w => by simp [zeroValue, typeInfo, h3, h4]
  have hsr : ∀ w, (sizeOf e).run P w = .ok sz w := fun w => sizeOf_run he.size
  simp only [evW] at hev
  split at hev
  · rename_i m hm
    rw [hm] at hrz
    split at hev
    · rename_i hb
      obtain ⟨hm0, hmb, hmx⟩ := hb
      have hwrap : IntKind.i64.wrap m = m := by rw [IntKind.wrap_i64]; omega
      have hneg : ¬ m < 0 := by omega
      have hbig : ¬ (m * (i.bytes : Int) > 2 ^ 48) := by rw [h7]; omega
      split at hev
      · rename_i hq
        rw [hq] at hr
        split at hev
        · rename_i hz0
          subst hz0
          injection hev with hev
          injection hev with e1 e2
          subst e1 e2
          refine OpOk.val hs.inv (hrun (.slice none 0 0) x.w ?_) .nilsl (by simp [AV.refs])
          rw [hr.nilsl_inv, hrz.s_inv]
          simp only [Builtin.append_, List.getElem?_toArray, List.getElem?_cons_zero, List.getElem?_cons_succ, Sem.run_bind, run_underlying h1, Result.andThen_ok, hsr, run_underlying h2, Sem.run_pure, if_true, asInt, asIntOf, hwrap, if_neg hneg, hti, if_neg hbig]
          simp
        · rename_i hz0
          split at hev
          · rename_i h1' hal
            injection hev with hev
            injection hev with e1 e2
            subst e1 e2
            obtain ⟨hs0, rfl⟩ := alloc1 hal
            have hlt : s < st.h.length := (List.getElem?_eq_some_iff.1 hs0).1
            let n := m.toNat
            have hn : (n : Int) = m := by simp [n]; omega
            have hnpos : 0 < n := by omega
            have hnmax : n ≤ maxLen := by simp only [maxLen]; omega
            have hnb : n * bytes ≤ 140737488355328 := by
              have : ((n * bytes : Nat) : Int) ≤ 140737488355328 := by rw [Int.natCast_mul, hn]; omega
              omega
            let cap := grownCap x.w n 0 e
            have hcap : n ≤ cap := grownCap_ge x.w _ _ _
            have hcm : cap ≤ maxLen := grownCap_le_maxLen x.w _ _ _ hnmax
            let arr : List Value := (madeCells zv.cells (n * sz)).toList ++ (madeCells zv.cells ((cap - n) * sz)).toList
            have hm' : Made x.w (x.w.drew.alloc (.cells arr.toArray e)) arr.toArray e (0, 0) := ⟨rfl, rfl, rfl, rfl⟩
            have hst := Step.make (h := st.h) (cap := cap) (o := .row e sz false false (List.replicate n (zs.map cOf))) hm' hs.inv.sh hs0
            have hinv : Inv G (x.make (x.w.drew.alloc (.cells arr.toArray e)) s cap) (st.h.set s (some (.row e sz false false (List.replicate n (zs.map cOf))))) := by
              refine hs.inv.make hm' hs0 (objRel_row (arr := arr) (front := (madeCells zv.cells (n * sz)).toList) ?_ ?_ (by simpa [Cx.make] using hcap) (by simpa [Cx.make] using hcm) he.pos (fun v hv => ?_) (rowIs_zero h5 hzo he.len) (fun j v hv => ?_) fun _ => by simpa [Cx.make] using hs.b0) (by simp [Obj.refs])
              · simpa [Cx.make] using hm'.new
              · simp only [arr, List.length_append, Array.length_toList, size_madeCells, Cx.make, upd_same, ← Nat.add_mul]
                congr 1
                omega
              · simp only [arr, List.mem_append] at hv
                rcases hv with hv | hv
                · exact (rowIs_zero (x := x) (n := n) (old := false) h5 hzo he.len).one v hv
                · exact (rowIs_zero (x := x) (n := cap - n) (old := false) h5 hzo he.len).one v hv
              · rw [List.getElem?_append_left (List.getElem?_eq_some_iff.1 hv).1]
                exact hv
            intro K Q hK
            unfold Oper.wp
            have hrun' : (Builtin.append_ #[t, t2] o.type #[a.eval y, a.eval z]).run P x.w = .ok (.slice (some ⟨x.w.heap.size, 0, none⟩) n cap) (x.w.drew.alloc (.cells arr.toArray e)) := by
              rw [hr.nilsl_inv, hrz.s_inv]
              have hch : (choose (.appendCap n 0 e)).run P x.w = .ok cap x.w.drew := by
                rw [run_choose]
                rfl
              have h63 : ¬ (((n : Nat) : Int) > IntKind.i64.max) := by
                have : IntKind.i64.max = 9223372036854775807 := by decide
                rw [this]; omega
              have h48 : ¬ (Builtin.nextslicecap n 0 * i.bytes > 2 ^ 48) := by rw [nextslicecap_zero hnpos, h7]; omega
              have hns : n * sz ≠ 0 := by
                have := Nat.mul_pos hnpos he.pos
                omega
              simp only [Builtin.append_, List.getElem?_toArray, List.getElem?_cons_zero, List.getElem?_cons_succ, Sem.run_bind, run_underlying h1, Result.andThen_ok, hsr, run_underlying h2, Sem.run_pure, if_true, asInt, asIntOf, hwrap, if_neg hneg, hti, if_neg hbig, Nat.zero_add]
              rw [if_neg (show ¬ m.toNat ≤ 0 from by omega)]
              simp only [Sem.run_bind, hti, Result.andThen_ok, Sem.run_ite]
              rw [if_neg (show ¬ (((m.toNat : Nat) : Int) > IntKind.i64.max ∧ (True ∨ i.bytes = 0)) from fun h => h63 h.1)]
              rw [if_neg (show ¬ (Builtin.nextslicecap m.toNat 0 * i.bytes > 2 ^ 48) from h48)]
              simp only [Sem.run_bind, show (choose (.appendCap m.toNat 0 e)).run P x.w = .ok cap x.w.drew from hch, Result.andThen_ok, hti, run_askRoom, run_firstCells_none, Bool.not_true, Bool.false_eq_true, if_false]
              rw [if_neg (show ¬ m.toNat * sz = 0 from hns)]
              simp only [Sem.run_bind, hzr, Result.andThen_ok, Sem.run_pure, newRow, run_newObj, World.alloc_eq, World.size_drew, zeroCells_made hzs]
              congr 3
              simp [arr, n]
            rw [hrun _ _ hrun']
            refine hK (x.make _ s cap) _ hinv hst (.row s n _ trivial (fun e' s' o' f' l' hg => ?_) fun e' s' o' f' l' hg _ => by simp [Cx.make]) fun id hid => ?_
            · rw [getO_set hlt, if_pos rfl] at hg
              injection hg with hg
              injection hg with _ _ _ _ h5'
              subst h5'
              simp [n]
            · simp only [AV.refs, List.mem_singleton] at hid
              subst hid
              rw [getO_set hlt, if_pos rfl]
              rfl
          · simp at hev
      · simp at hev
    · simp at hev
  · simp at hev

theorem trunc_ok {o : Oper} {y z : Operand} {t e : TypeId} {s : Nat} {F : FnEv} (ho : o.op = .slice t y none (some z) none) (h1 : P.underlying t = some (.slice e)) (h2 : ∃ sz, TSize P e sz) (hs : RelS G x st a) {v : AV} {h' : Heap} (hev : evW G st.t F st.h (.trunc s (trO y) (trO z)) = some (v, h')) : OpOk P o a G x st.h v h' := by
  have hr := hs.opd y
  have hrz := hs.opd z
  obtain ⟨sz, h2⟩ := h2
  have hrun : ∀ base n cap k i, a.eval y = .slice base n cap → a.eval z = .int k i → 0 ≤ i → i ≤ (cap : Int) → (base = none ∨ ∃ g q, base = some ⟨g, q, none⟩) → (execOp a.eval o).run P x.w = .ok (.value (.slice base i.toNat cap)) x.w := fun base n cap k i hy hz h3 h4 hb => by
    have hsb : (Instr.sliceBound (.int k i) cap .sliceAcap).run P x.w = .ok i.toNat x.w := by
      simp only [Instr.sliceBound, asIntOf, Sem.run_bind, Sem.run_pure, Result.andThen_ok]
      rw [if_pos ⟨h3, h4⟩]
      rfl
    simp only [execOp, ho, Instr.sliceAt, Sem.run_bind, run_underlying h1, Result.andThen_ok, Instr.slice, hy, Instr.sliceBounds, Option.map_none, Option.map_some, hz, Sem.run_pure, if_true, hsb, sizeOf_run h2, Nat.sub_zero, Nat.zero_mul]
    rcases hb with rfl | ⟨g, q, rfl⟩
    · simp
    · simp [Addr.add_lit]
  simp only [evW] at hev
  split at hev
  · rename_i id n k i hq hqz
    rw [hq] at hr
    rw [hqz] at hrz
    split at hev
    · rename_i e0 s0 o' l hrow
      obtain ⟨hg, hlen⟩ := rowAt_inv hrow
      split at hev
      · rename_i hin
        split at hev
        · rename_i h1' hal
          injection hev with hev
          injection hev with e1 e2
          subst e1 e2
          obtain ⟨hs0, rfl⟩ := alloc1 hal
          have hlt0 := getO_lt (by rw [hg]; rfl : (getO st.h id).isSome)
          have hlts : s < st.h.length := by have := (List.getElem?_eq_some_iff.1 hs0).1; simpa using this
          have hne : s ≠ id := by
            rintro rfl
            rw [List.getElem?_set_self hlt0] at hs0
            simp at hs0
          have hs1 : getO st.h s = none := by
            rw [List.getElem?_set_ne (Ne.symm hne)] at hs0
            simp [getO, List.getD, hs0]
          obtain ⟨arr, hb1, hsize, hcap, hmax, hpos, hone, hfront, hB⟩ := obj_row hs.inv hg
          have hget : ∀ j, getO ((st.h.set id (some .dead)).set s (some (.row e0 s0 o' false (l.take i.toNat)))) j = if j = s then some (.row e0 s0 o' false (l.take i.toNat)) else if j = id then some .dead else getO st.h j := fun j => by
            rw [getO_set (by simpa using hlts)]
            by_cases c1 : j = s
            · rw [if_pos c1, if_pos c1]
            · rw [if_neg c1, if_neg c1, getO_set hlt0]
          generalize hh' : (st.h.set id (some .dead)).set s (some (.row e0 s0 o' false (l.take i.toNat))) = h' at hget ⊢
          let x' : Cx := { x with φ := upd x.φ s (x.φ id), κ := upd x.κ s (x.κ id) }
          have hst : Step (fun _ => True) x st.h x' h' := {
            ext := ⟨rfl, fun b o hS => ⟨hS, rfl⟩⟩
            size := Nat.le_refl _
            evo := fun j _ hj => by
              have c1 : j ≠ s := by rintro rfl; rw [hs1] at hj; simp at hj
              by_cases c2 : j = id
              · subst c2
                refine ⟨⟨fun cs hc => ?_, fun e s o f l' hc => ?_⟩, ?_⟩ <;> rw [hget, if_neg c1, if_pos rfl] at * <;> simp_all
              · refine ⟨.same (by rw [hget, if_neg c1, if_neg c2]) (upd_other _ c1) (upd_other _ c1), ?_⟩
                rw [hget, if_neg c1, if_neg c2]
                exact hj
            frame := fun b _ _ => rfl
            sgrow := fun b o hS => .inl hS
            fresh := fun j ob hg' hmut => by
              left
              rw [hget] at hg'
              by_cases c1 : j = s
              · exact ⟨id, _, hg, rfl, by simp [x', c1]⟩
              · rw [if_neg c1] at hg'
                by_cases c2 : j = id
                · rw [if_pos c2] at hg'
                  injection hg' with hg'
                  subst hg'
                  exact hmut.elim
                · rw [if_neg c2] at hg'
                  exact ⟨j, ob, hg', hmut, upd_other _ c1⟩
            frow := fun j ob hg' hrow => by
              left
              rw [hget] at hg'
              by_cases c1 : j = s
              · exact ⟨id, _, hg, trivial, fun _ => rfl, by simp [x', c1]⟩
              · rw [if_neg c1] at hg'
                by_cases c2 : j = id
                · rw [if_pos c2] at hg'
                  injection hg' with hg'
                  subst hg'
                  exact hrow.elim
                · rw [if_neg c2] at hg'
                  exact ⟨j, ob, hg', hrow, fun h => h, upd_other _ c1⟩
            os := rfl
            tape := rfl
            output := rfl }
          have hinv : Inv G x' h' := {
            obj := fun j ob hg' => by
              rw [hget] at hg'
              by_cases c1 : j = s
              · rw [if_pos c1] at hg'
                injection hg' with hg'
                subst hg' c1
                have hle : (l.take i.toNat).length * s0 ≤ arr.size := by
                  rw [hsize]
                  exact Nat.mul_le_mul_right _ (by simp; omega)
                refine objRel_row (arr := arr.toList) (front := (arr.toList.take (l.length * s0)).take ((l.take i.toNat).length * s0)) (by simpa [x'] using hb1) (by simpa [x'] using hsize) (by simp [x']; omega) (by simpa [x'] using hmax) hpos (fun v hv => hone v (by simpa using hv)) ⟨?_, fun el hel => hfront.els el (List.mem_of_mem_take hel), fun v hv => hfront.one v (List.mem_of_mem_take hv), fun i' k' el c h11 h12 => ?_⟩ (fun q v hv => ?_) (by simpa [x'] using hB)
                · rw [List.length_take, hfront.size]
                  have : (l.take i.toNat).length ≤ l.length := by simp; omega
                  have := Nat.mul_le_mul_right s0 this
                  omega
                · rw [List.getElem?_take] at h11
                  split at h11
                  · rename_i hlt
                    obtain ⟨v, h13, h14⟩ := hfront.rep i' k' el c h11 h12
                    refine ⟨v, ?_, h14⟩
                    have hk : k' < s0 := by rw [← hfront.els el (List.mem_of_getElem? h11)]; exact (List.getElem?_eq_some_iff.1 h12).1
                    have hi' : i' < l.length := (List.getElem?_eq_some_iff.1 h11).1
                    have hlt2 : i' < (l.take i.toNat).length := by simp; omega
                    have hm := Nat.mul_le_mul_right s0 hlt2
                    rw [Nat.succ_mul] at hm
                    rw [List.getElem?_take, if_pos (by omega)]
                    exact h13
                  · simp at h11
                · rw [List.getElem?_take] at hv
                  split at hv
                  · rw [List.getElem?_take] at hv
                    split at hv
                    · exact hv
                    · simp at hv
                  · simp at hv
              · rw [if_neg c1] at hg'
                by_cases c2 : j = id
                · rw [if_pos c2] at hg'
                  injection hg' with hg'
                  subst hg'
                  trivial
                · rw [if_neg c2] at hg'
                  exact (hs.inv.obj j ob hg').mono hst.ext rfl (upd_other _ c1) (upd_other _ c1) fun q hq' => (hst.evo q trivial (hs.inv.live j ob hg' q hq')).1
            inj := fun p q op oq gp gq dp dq hpq => by
              rw [hget] at gp gq
              have hφ : ∀ j, x'.φ j = if j = s then x.φ id else x.φ j := fun j => by simp [x', upd]
              rw [hφ, hφ] at hpq
              by_cases c1 : p = s
              · by_cases c3 : q = s
                · rw [c1, c3]
                · rw [if_pos c1, if_neg c3] at hpq
                  rw [if_neg c3] at gq
                  by_cases c4 : q = id
                  · rw [if_pos c4] at gq
                    injection gq with gq
                    exact absurd gq.symm dq
                  · rw [if_neg c4] at gq
                    exact absurd (hs.inv.inj id q _ _ hg gq (by simp) dq hpq).symm c4
              · rw [if_neg c1] at gp hpq
                by_cases c2 : p = id
                · rw [if_pos c2] at gp
                  injection gp with gp
                  exact absurd gp.symm dp
                · rw [if_neg c2] at gp
                  by_cases c3 : q = s
                  · rw [if_pos c3] at hpq
                    exact absurd (hs.inv.inj p id _ _ gp hg dp (by simp) hpq) c2
                  · rw [if_neg c3] at gq hpq
                    by_cases c4 : q = id
                    · rw [if_pos c4] at gq
                      injection gq with gq
                      exact absurd gq.symm dq
                    · rw [if_neg c4] at gq
                      exact hs.inv.inj p q _ _ gp gq dp dq hpq
            own := fun j ob hg' hmut q => by
              rw [hget] at hg'
              by_cases c1 : j = s
              · subst c1
                simpa [x'] using hs.inv.own id _ hg rfl q
              · rw [if_neg c1] at hg'
                by_cases c2 : j = id
                · rw [if_pos c2] at hg'
                  injection hg' with hg'
                  subst hg'
                  exact hmut.elim
                · rw [if_neg c2] at hg'
                  simpa [x', upd_other _ c1] using hs.inv.own j ob hg' hmut q
            sh := hs.inv.sh
            live := fun j ob hg' q hq' => by
              rw [hget] at hg'
              by_cases c1 : j = s
              · rw [if_pos c1] at hg'
                injection hg' with hg'
                subst hg'
                simp [Obj.refs] at hq'
              · rw [if_neg c1] at hg'
                by_cases c2 : j = id
                · rw [if_pos c2] at hg'
                  injection hg' with hg'
                  subst hg'
                  simp [Obj.refs] at hq'
                · rw [if_neg c2] at hg'
                  exact (hst.evo q trivial (hs.inv.live j ob hg' q hq')).2
            glob := hs.inv.glob }
          cases hr with
          | row id n u hv hle hr =>
            have hy := hr _ _ _ _ _ hg hlen
            intro K Q hK
            unfold Oper.wp
            rw [hrun _ _ _ k i hy hrz.s_inv hin.1 (by omega) (.inr ⟨_, _, rfl⟩)]
            refine hK x' _ hinv hst (.row s i.toNat _ trivial (fun e' s' o'' f' l' hc => ?_) fun e' s' o'' f' l' hc _ => by simp [x']) fun q hq' => ?_
            · rw [hget, if_pos rfl] at hc
              injection hc with hc
              injection hc with _ _ _ _ e5
              subst e5
              simp
              omega
            · simp only [AV.refs, List.mem_singleton] at hq'
              subst hq'
              rw [hget, if_pos rfl]
              rfl
        · simp at hev
      · simp at hev
    · simp at hev
  · rename_i k i hq hqz
    rw [hq] at hr
    rw [hqz] at hrz
    split at hev
    · rename_i hi0
      subst hi0
      injection hev with hev
      injection hev with e1 e2
      subst e1 e2
      exact OpOk.val hs.inv (hrun none 0 0 k 0 hr.nilsl_inv hrz.s_inv (by omega) (by omega) (.inl rfl)) .nilsl (by simp [AV.refs])
    · simp at hev
  · simp at hev

/-! ### Freezing -/
structure Frz (G : Cf) (x : Cx) (h : Heap) (x' : Cx) (h' : Heap) : Prop where
  w : x'.w = x.w
  inv : Inv G x' h'
  step : Step (fun _ => True) x h x' h'

theorem frz1_ok {h h' : Heap} (hi : Inv G x h) {v v' : AV} {u : Value} (hr : RelV x h v u) (he : frz1 h v = some (v', h')) : ∃ x', Frz G x h x' h' ∧ RelV x' h' v' u ∧ ∀ id ∈ v'.refs, id ∈ v.refs := by
  unfold frz1 at he
  split at he
  · rename_i id n
    split at he
    · rename_i e s o f l hrow
      injection he with he
      injection he with e1 e2
      subst e1 e2
      obtain ⟨hg, hlen⟩ := rowAt_inv hrow
      obtain ⟨arr, h1, h2, h3, h4, h5, h6, h7, h8, h9, h10⟩ := hi.obj id _ hg
      have hlt := getO_lt (by rw [hg]; rfl : (getO h id).isSome)
      let x' : Cx := { x with S := fun b q => x.S b q ∨ (b = x.φ id ∧ q < l.length * s) }
      have hext : Ext x x' := ⟨rfl, fun b q hS => ⟨.inl hS, rfl⟩⟩
      have hevo : ∀ j, Evo x h x' (h.set id (some (.row e s o true l))) j := fun j => by
        by_cases c : j = id
        · subst c
          refine ⟨fun cs hc => ?_, fun e' s' o' f' l' hc => ?_⟩
          · rw [getO_set hlt, if_pos rfl] at hc
            simp at hc
          · rw [getO_set hlt, if_pos rfl] at hc
            injection hc with hc
            injection hc with a1 a2 a3 a4 a5
            subst a1 a2 a5
            exact ⟨o, f, l, hg, Nat.le_refl _, fun _ => ⟨rfl, rfl⟩⟩
        · exact .same (by rw [getO_set hlt, if_neg c]) rfl rfl
      have hnew : ∀ b q, x'.S b q → x.S b q ∨ (f = false ∧ b = x.φ id) := fun b q hS => hS.elim .inl fun hb => by
        cases f with
        | false => exact .inr ⟨rfl, hb.1⟩
        | true => rw [hb.1]; exact .inl (h9 rfl q hb.2).1
      have hst : Step (fun _ => True) x h x' (h.set id (some (.row e s o true l))) := {
        ext := hext
        size := Nat.le_refl _
        evo := fun j _ hj => ⟨hevo j, by
          by_cases c : j = id
          · rw [getO_set hlt, if_pos c]; rfl
          · rw [getO_set hlt, if_neg c]; exact hj⟩
        frame := fun b _ _ => rfl
        sgrow := fun b q hS => (hnew b q hS).elim .inl fun hb => .inr (.inl ⟨id, _, hg, trivial, hb.1, hb.2.symm⟩)
        fresh := fun j ob hg' hmut => by
          left
          by_cases c : j = id
          · rw [getO_set hlt, if_pos c] at hg'
            injection hg' with hg'
            subst hg'
            simp [Obj.mut] at hmut
          · rw [getO_set hlt, if_neg c] at hg'
            exact ⟨j, ob, hg', hmut, rfl⟩
        frow := fun j ob hg' hrow => by
          left
          by_cases c : j = id
          · rw [getO_set hlt, if_pos c] at hg'
            injection hg' with hg'
            subst hg'
            exact ⟨id, _, hg, trivial, fun h => by simp [Obj.mut] at h, by rw [c]⟩
          · rw [getO_set hlt, if_neg c] at hg'
            exact ⟨j, ob, hg', hrow, fun h => h, rfl⟩
        os := rfl
        tape := rfl
        output := rfl }
      have hinv : Inv G x' (h.set id (some (.row e s o true l))) := by
        refine hi.update id hst (fun j c => by rw [getO_set hlt, if_neg c]) (fun _ _ => rfl) (fun _ _ => rfl) (fun _ _ _ _ _ => rfl) (fun j ob c hg' hmut q hS => ?_) (fun b q hS => ?_) (fun ob hg' => ?_)
        · rcases hnew _ _ hS with hS | hS
          · exact hi.own j ob hg' hmut q hS
          · exact c (hi.inj j id _ _ hg' hg (Obj.mut_ne hmut) (by simp) hS.2)
        · rcases hnew _ _ hS with hS | hS
          · exact hi.sh b q hS
          · rw [hS.2]; exact block_lt hi hg (by simp)
        · rw [getO_set hlt, if_pos rfl] at hg'
          injection hg' with hg'
          subst hg'
          refine ⟨⟨arr, h1, h2, h3, h4, h5, h6, h7, fun i k el c h11 h12 => ?_, fun _ j hj => ⟨.inr ⟨rfl, hj⟩, ?_⟩, h10⟩, by simp [Obj.refs], fun hmut => by simp [Obj.mut] at hmut, fun _ j ob c hgj hd hp => c (hi.inj j id _ _ hgj hg hd (by simp) hp.symm)⟩
          · obtain ⟨v, h13, h14⟩ := h8 i k el c h11 h12
            exact ⟨v, h13, h14.mono (hext.sh o)⟩
          · cases o with
            | true => exact .inl rfl
            | false => exact .inr (h10 rfl)
      refine ⟨x', ⟨rfl, hinv, hst⟩, ?_, by simp [AV.refs]⟩
      cases hr with
      | row id n u hv hle hr =>
        have hu := hr _ _ _ _ _ hg hlen
        rw [hu]
        subst hlen
        refine .sl o l _ ?_
        by_cases hne : l = []
        · subst hne
          exact .nil _ _ (by simp)
        · have hle1 : l.length * s ≤ arr.size := by rw [h2]; exact Nat.mul_le_mul_right _ h3
          refine .sl l s (x.φ id) 0 _ (fun j => arr.getD j undef) hne h6 h3 (fun j hj => ⟨⟨.inr ⟨rfl, by omega⟩, ?_⟩, ?_⟩) fun i k el c h11 h12 => ?_
          · cases o with
            | true => exact .inl rfl
            | false => exact .inr (h10 rfl)
          · have : j < arr.size := by omega
            rw [Nat.zero_add]
            simp [x', World.cell?, h1, Array.getD, this]
          · obtain ⟨v, h13, h14⟩ := h8 i k el c h11 h12
            simpa [Array.getD_eq_getD_getElem?, h13] using h14.mono (hext.sh o)
    · simp at he
  · injection he with he
    injection he with e1 e2
    subst e1 e2
    exact ⟨x, ⟨rfl, hi, Step.refl _ _ _⟩, hr, fun id h => h⟩

theorem Frz.trans {y z : Cx} {h h1 h2 : Heap} (p : Frz G x h y h1) (q : Frz G y h1 z h2) : Frz G x h z h2 := ⟨q.w.trans p.w, q.inv, p.step.trans q.step⟩

theorem frzL_ok : ∀ {l l' : List AV} {vs : List Value} {x : Cx} {h h' : Heap}, Inv G x h → l.length = vs.length → (∀ (i : Nat) (a : AV) (v : Value), l[i]? = some a → vs[i]? = some v → RelV x h a v) → Live h l → frzL h l = some (l', h') →
    ∃ x', Frz G x h x' h' ∧ l'.length = vs.length ∧ (∀ (i : Nat) (a : AV) (v : Value), l'[i]? = some a → vs[i]? = some v → RelV x' h' a v) ∧ ∀ id ∈ refsL l', id ∈ refsL l
  | [], l', vs, x, h, h', hi, hl, _, _, he => by
    simp only [frzL, Option.some.injEq, Prod.mk.injEq] at he
    obtain ⟨rfl, rfl⟩ := he
    exact ⟨x, ⟨rfl, hi, Step.refl _ _ _⟩, hl, fun i a v h1 _ => by simp at h1, fun id h => h⟩
  | b :: l, l', vs, x, h, h', hi, hl, hr, hlv, he => by
    cases vs with
    | nil => simp at hl
    | cons v vs =>
      simp only [frzL] at he
      split at he
      · rename_i b' h1 hb
        split at he
        · rename_i r h2 hr2
          injection he with he
          injection he with e1 e2
          subst e1 e2
          obtain ⟨x1, f1, r1, s1⟩ := frz1_ok hi (hr 0 b v rfl rfl) hb
          have hlive1 : Live h l := fun id hid => hlv id (by simp only [refsL, List.mem_append]; exact .inr hid)
          obtain ⟨x2, f2, l2, r2, s2⟩ := frzL_ok (vs := vs) f1.inv (by simpa using hl) (fun i a v h3 h4 => (hr (i + 1) a v (by simpa using h3) (by simpa using h4)).step f1.step fun id hid => ⟨trivial, hlive1 id (mem_refsL h3 hid)⟩) (fun id hid => (f1.step.evo id trivial (hlive1 id hid)).2) hr2
          refine ⟨x2, f1.trans f2, by simp [l2], fun i a w h3 h4 => ?_, fun id hid => ?_⟩
          · cases i with
            | zero =>
              simp only [List.getElem?_cons_zero, Option.some.injEq] at h3 h4
              subst h3 h4
              exact r1.step f2.step fun id hid => ⟨trivial, (f1.step.evo id trivial (hlv id (by simp only [refsL, List.mem_append]; exact .inl (s1 id hid)))).2⟩
            | succ i => exact r2 i a w (by simpa using h3) (by simpa using h4)
          · simp only [refsL, List.mem_append] at hid ⊢
            exact hid.imp (s1 id) (s2 id)
        · simp at he
      · simp at he

theorem frz_ok {h h' : Heap} (hi : Inv G x h) {v v' : AV} {u : Value} (hr : RelV x h v u) (hl : ∀ id ∈ v.refs, (getO h id).isSome) (he : frz h v = some (v', h')) : ∃ x', Frz G x h x' h' ∧ RelV x' h' v' u ∧ ∀ id ∈ v'.refs, id ∈ v.refs := by
  unfold frz at he
  split at he
  · rename_i l
    split at he
    · rename_i l' h1 hl'
      injection he with he
      injection he with e1 e2
      subst e1 e2
      obtain ⟨vs, rfl, hlen, hrel⟩ := hr.agg_inv
      obtain ⟨x', f, l2, r2, s2⟩ := frzL_ok hi hlen hrel (fun id hid => hl id (by simpa [AV.refs] using hid)) hl'
      exact ⟨x', f, .agg _ _ l2 r2, fun id hid => by simpa [AV.refs] using s2 id (by simpa [AV.refs] using hid)⟩
    · simp at he
  · exact frz1_ok hi hr he

theorem RelS.step' {x' : Cx} {h' : Heap} (hs : RelS G x st a) (hi : Inv G x' h') (hst : Step (fun _ => True) x st.h x' h') : RelS G x' ⟨st.t, h'⟩ a where
  inv := hi
  b0 := by rw [hst.ext.b0]; exact Nat.le_trans hs.b0 hst.size
  size := hs.size
  vals := fun i hl => (hs.vals i hl).step hst fun id hid => ⟨trivial, hs.live id (getD_mem hid)⟩
  live := fun id hid => (hst.evo id trivial (hs.live id hid)).2

/-- A temporary is given a value. -/
theorem RelS.put {v : AV} {u : Value} (hs : RelS G x st a) (d : Nat) (hv : RelV x st.h v u) (hl : ∀ id ∈ v.refs, (getO st.h id).isSome) : RelS G x ⟨st.t.set d v, st.h⟩ (a.put (some d) u) where
  inv := hs.inv
  b0 := hs.b0
  size := by simpa [Act.put] using hs.size
  vals := fun i hi => by
    simp only [List.length_set] at hi
    have hsz := hs.size
    by_cases c : d = i
    · subst c
      have h1 : (st.t.set d v).getD d .undef = v := by simp [List.getD, hi]
      have h2 : (a.put (some d) u).tmps.getD d undef = u := by simp [Act.put, Array.getD_eq_getD_getElem?, hsz, hi]
      rw [h1, h2]
      exact hv
    · have h1 : (st.t.set d v).getD i .undef = st.t.getD i .undef := by simp [List.getD, c]
      have h2 : (a.put (some d) u).tmps.getD i undef = a.tmps.getD i undef := by simp [Act.put, Array.getD_eq_getD_getElem?, Array.getElem?_setIfInBounds, c]
      rw [h1, h2]
      exact hs.vals i hi
  live := fun id hid => by
    obtain ⟨i, b, h1, h2⟩ := mem_refsL_iff.1 hid
    rcases List.mem_or_eq_of_mem_set (List.mem_of_getElem? h1) with h3 | h3
    · obtain ⟨j, hj⟩ := List.getElem?_of_mem h3
      exact hs.live id (mem_refsL hj h2)
    · subst h3
      exact hl id h2

theorem frzTs_ok : ∀ (l : List Nat) {x : Cx} {st st' : St}, RelS G x st a → frzTs l st = some st' → ∃ x', Frz G x st.h x' st'.h ∧ RelS G x' st' a
  | [], x, st, st', hs, he => by
    simp only [frzTs, Option.some.injEq] at he
    subst he
    exact ⟨x, ⟨rfl, hs.inv, Step.refl _ _ _⟩, hs⟩
  | i :: r, x, st, st', hs, he => by
    simp only [frzTs] at he
    split at he
    · rename_i v h1 hv
      obtain ⟨x1, f1, r1, s1⟩ := frz_ok hs.inv (hs.val i) (fun id hid => hs.live id (getD_mem hid)) hv
      have hs1 := hs.step' f1.inv f1.step
      have hput := hs1.put i (v := v) (u := a.tmps.getD i undef) r1 fun id hid => (f1.step.evo id trivial (hs.live id (getD_mem (s1 id hid)))).2
      have hact : a.put (some i) (a.tmps.getD i undef) = a := by
        cases a with
        | mk tmps defers =>
          simp only [Act.put, Act.mk.injEq, and_true]
          apply Array.ext_getElem?
          intro j
          rw [Array.getElem?_setIfInBounds]
          by_cases c : i = j
          · subst c
            by_cases hlt : i < tmps.size
            · simp [hlt, Array.getD]
            · simp [hlt]
          · simp [c]
      rw [hact] at hput
      obtain ⟨x2, f2, s2⟩ := frzTs_ok r hput he
      exact ⟨x2, f1.trans f2, s2⟩
    · simp at he

end
end Go.Ev
