/-
  Regions: operations one behind the other, and operations whose order is left open.
-/
import Derived.Test.YtebiajdkgpcidaaEvLoc
import Derived.Orders
set_option linter.unusedSimpArgs false
set_option linter.unusedVariables false
namespace Go.Ev

def guardTmps : Option (Nat × Bool) → List Nat
  | some (i, _) => [i]
  | none => []
def Opr.rd (o : Opr) : List Nat := o.op.tmps ++ (guardTmps o.g ++ o.fz)
def Opr.wr (o : Opr) : List Nat := o.dst.toList ++ o.fz

theorem disjL_spec {a b : List Nat} (h : disjL a b = true) : ∀ i ∈ a, i ∉ b := fun i hi hb => by
  have := List.all_eq_true.1 h i hi
  simp at this
  exact this hb

theorem setD_getD {t : List AV} {d : Nat} {v : AV} {i : Nat} : (t.set d v).getD i .undef = if d = i ∧ d < t.length then v else t.getD i .undef := by
  simp only [List.getD_eq_getElem?_getD, List.getElem?_set]
  by_cases c : d = i
  · subst c
    by_cases hl : d < t.length
    · simp [hl]
    · simp [hl, List.getElem?_eq_none (Nat.le_of_not_lt hl)]
  · simp [c]

theorem ext_getD {t u : List AV} (hl : t.length = u.length) (h : ∀ i, t.getD i .undef = u.getD i .undef) : t = u := by
  apply List.ext_getElem hl
  intro i h1 h2
  have := h i
  simpa [List.getD_eq_getElem?_getD, h1, h2] using this

section
variable {G : Cf} {F : FnEv}

/-! ### Freezing stays within its slots -/
theorem frz1_local {h h1 k : Heap} {v v' : AV} {m : List Nat} (hm : ∀ i ∈ v.refs, i ∈ m) (he : frz1 h v = some (v', h1)) (hl : k.length = h.length) (ha : AgH m h k) :
    h1.length = h.length ∧ ButH m h h1 ∧ (∀ i ∈ v'.refs, i ∈ m) ∧ ∃ k1, frz1 k v = some (v', k1) ∧ AgH m h1 k1 ∧ k1.length = k.length ∧ ButH m k k1 := by
  have other : ∀ (h9 : frz1 h v = some (v, h)) (h8 : frz1 k v = some (v, k)), h1.length = h.length ∧ ButH m h h1 ∧ (∀ i ∈ v'.refs, i ∈ m) ∧ ∃ k1, frz1 k v = some (v', k1) ∧ AgH m h1 k1 ∧ k1.length = k.length ∧ ButH m k k1 := fun h9 h8 => by
    rw [h9] at he
    simp only [Option.some.injEq, Prod.mk.injEq] at he
    obtain ⟨rfl, rfl⟩ := he
    exact ⟨rfl, .refl _ _, hm, k, h8, ha, rfl, .refl _ _⟩
  cases v <;> first
    | exact other rfl rfl
    | skip
  rename_i id n
  have hid : id ∈ m := hm id (by simp [AV.refs])
  simp only [frz1] at he ⊢
  rw [← ha.rowAt hid]
  split at he
  · rename_i e s o f l hr
    simp only [Option.some.injEq, Prod.mk.injEq] at he
    obtain ⟨rfl, rfl⟩ := he
    exact ⟨by simp, set_but hid, by simp [AV.refs], _, rfl, set_ag ha hl _ _, by simp, set_but hid⟩
  · simp at he

theorem frzL_local : ∀ {l l' : List AV} {h h1 k : Heap} {m : List Nat}, (∀ i ∈ refsL l, i ∈ m) → frzL h l = some (l', h1) → k.length = h.length → AgH m h k →
    h1.length = h.length ∧ ButH m h h1 ∧ (∀ i ∈ refsL l', i ∈ m) ∧ ∃ k1, frzL k l = some (l', k1) ∧ AgH m h1 k1 ∧ k1.length = k.length ∧ ButH m k k1
  | [], l', h, h1, k, m, _, he, hl, ha => by
    simp only [frzL, Option.some.injEq, Prod.mk.injEq] at he
    obtain ⟨rfl, rfl⟩ := he
    exact ⟨rfl, .refl _ _, by simp [refsL], k, rfl, ha, rfl, .refl _ _⟩
  | a :: l, l', h, h1, k, m, hm, he, hl, ha => by
    simp only [refsL, List.mem_append] at hm
    simp only [frzL] at he
    split at he
    · rename_i a' h2 h3
      split at he
      · rename_i l2 h4 h5
        simp only [Option.some.injEq, Prod.mk.injEq] at he
        obtain ⟨rfl, rfl⟩ := he
        obtain ⟨p1, p2, p3, k1, p4, p5, p6, p7⟩ := frz1_local (fun i hi => hm i (.inl hi)) h3 hl ha
        obtain ⟨q1, q2, q3, k2, q4, q5, q6, q7⟩ := frzL_local (m := m) (fun i hi => hm i (.inr hi)) h5 (by rw [p6, p1, hl]) p5
        refine ⟨q1.trans p1, p2.trans q2, fun i hi => ?_, k2, by simp only [frzL, p4, q4], q5, q6.trans p6, p7.trans q7⟩
        simp only [refsL, List.mem_append] at hi
        exact hi.elim (p3 i) (q3 i)
      · simp at he
    · simp at he

theorem frz_local {h h1 k : Heap} {v v' : AV} {m : List Nat} (hm : ∀ i ∈ v.refs, i ∈ m) (he : frz h v = some (v', h1)) (hl : k.length = h.length) (ha : AgH m h k) :
    h1.length = h.length ∧ ButH m h h1 ∧ (∀ i ∈ v'.refs, i ∈ m) ∧ ∃ k1, frz k v = some (v', k1) ∧ AgH m h1 k1 ∧ k1.length = k.length ∧ ButH m k k1 := by
  cases v <;> first
    | exact frz1_local hm he hl ha
    | skip
  rename_i l
  simp only [frz] at he ⊢
  split at he
  · rename_i l' h2 h3
    simp only [Option.some.injEq, Prod.mk.injEq] at he
    obtain ⟨rfl, rfl⟩ := he
    obtain ⟨q1, q2, q3, k2, q4, q5, q6, q7⟩ := frzL_local (m := m) (fun i hi => hm i (by simpa [AV.refs] using hi)) h3 hl ha
    exact ⟨q1, q2, fun i hi => q3 i (by simpa [AV.refs] using hi), k2, by simp only [q4], q5, q6, q7⟩
  · simp at he

theorem frzTs_local : ∀ {l : List Nat} {s s1 r : St} {m : List Nat}, (∀ j ∈ l, ∀ i ∈ (s.t.getD j .undef).refs, i ∈ m) → frzTs l s = some s1 → r.t.length = s.t.length → r.h.length = s.h.length → AgT l s.t r.t → AgH m s.h r.h →
    (s1.t.length = s.t.length ∧ s1.h.length = s.h.length ∧ (∀ i, i ∉ l → s1.t.getD i .undef = s.t.getD i .undef) ∧ ButH m s.h s1.h) ∧
    ∃ r1, frzTs l r = some r1 ∧ AgT l s1.t r1.t ∧ AgH m s1.h r1.h ∧ r1.t.length = r.t.length ∧ r1.h.length = r.h.length ∧ (∀ i, i ∉ l → r1.t.getD i .undef = r.t.getD i .undef) ∧ ButH m r.h r1.h
  | [], s, s1, r, m, _, he, htl, hhl, ht, hh => by
    simp only [frzTs, Option.some.injEq] at he
    subst he
    exact ⟨⟨rfl, rfl, fun _ _ => rfl, .refl _ _⟩, r, rfl, ht, hh, rfl, rfl, fun _ _ => rfl, .refl _ _⟩
  | j :: l, s, s1, r, m, hm, he, htl, hhl, ht, hh => by
    simp only [frzTs] at he
    split at he
    · rename_i v h1 hv
      have hj : s.t.getD j .undef = r.t.getD j .undef := ht j (by simp)
      obtain ⟨p1, p2, p3, k1, p4, p5, p6, p7⟩ := frz_local (hm j (by simp)) hv hhl hh
      have hag : AgT l (s.t.set j v) (r.t.set j v) := fun i hi => by
        rw [setD_getD, setD_getD, htl]
        split
        · rfl
        · exact ht i (by simp [hi])
      obtain ⟨⟨q1, q2, q3, q4⟩, r1, q5, q6, q7, q8, q9, q10, q11⟩ := frzTs_local (l := l) (s := ⟨s.t.set j v, h1⟩) (r := ⟨r.t.set j v, k1⟩) (m := m) (fun j' hj' i hi => by
        simp only [setD_getD] at hi
        split at hi
        · exact p3 i hi
        · exact hm j' (by simp [hj']) i hi) he (by simpa using htl) (by simp only; rw [p6, p1, hhl]) hag p5
      refine ⟨⟨by simpa using q1, q2.trans p1, fun i hi => ?_, p2.trans q4⟩, r1, by simp only [frzTs, ← hj, p4, q5], fun i hi => ?_, q7, by simpa using q8, q9.trans p6, fun i hi => ?_, p7.trans q11⟩
      · simp only [List.mem_cons, not_or] at hi
        rw [q3 i hi.2, setD_getD, if_neg (fun c => hi.1 c.1.symm)]
      · by_cases c : i ∈ l
        · exact q6 i c
        · rw [q3 i c, q10 i c, setD_getD, setD_getD, htl]
          split
          · rfl
          · exact ht i hi
      · simp only [List.mem_cons, not_or] at hi
        rw [q10 i hi.2, setD_getD, if_neg (fun c => hi.1 c.1.symm)]
    · simp at he

/-! ### An operation stays within its footprint -/
structure LocS (f : St → Option St) (ft : St → List Nat × List Nat) (rd wr : List Nat) (s s1 : St) : Prop where
  run : f s = some s1
  tl : s1.t.length = s.t.length
  hl : s1.h.length = s.h.length
  tb : ∀ i, i ∉ wr → s1.t.getD i .undef = s.t.getD i .undef
  hb : ButH (ft s).2 s.h s1.h
  sub : ∀ i ∈ (ft s).2, i ∈ (ft s).1
  ag : ∀ r : St, r.t.length = s.t.length → r.h.length = s.h.length → AgT rd s.t r.t → AgH (ft s).1 s.h r.h →
    ft r = ft s ∧ ∃ r1, f r = some r1 ∧ AgT wr s1.t r1.t ∧ AgH (ft s).1 s1.h r1.h ∧ r1.t.length = r.t.length ∧ r1.h.length = r.h.length ∧ (∀ i, i ∉ wr → r1.t.getD i .undef = r.t.getD i .undef) ∧ ButH (ft s).2 r.h r1.h

theorem guardOf_ag {t u : List AV} {g : Option (Nat × Bool)} (h : AgT (guardTmps g) t u) : guardOf t g = guardOf u g := by
  cases g with
  | none => rfl
  | some p =>
    obtain ⟨i, b⟩ := p
    simp only [guardOf, h i (by simp [guardTmps])]

theorem setD_len (t : List AV) (d : Option Nat) (v : AV) : (setD t d v).length = t.length := by
  cases d <;> simp [setD]
theorem setD_get (t : List AV) (d : Option Nat) (v : AV) (i : Nat) : (setD t d v).getD i .undef = if d = some i ∧ i < t.length then v else t.getD i .undef := by
  cases d with
  | none => simp [setD]
  | some d =>
    simp only [setD, setD_getD, Option.some.injEq]
    by_cases c : d = i
    · subst c; rfl
    · simp [c]

theorem fp_ag {t u : List AV} {h k : Heap} {o : Op1} (ht : AgT o.tmps t u) (hb : ∀ f as outs, o ≠ .bcall f as outs) (hh : AgH (fp G t h o) h k) : fp G u k o = fp G t h o := by
  cases o <;> simp only [Op1.tmps] at ht <;> simp only [fp] at hh ⊢ <;> first
    | rfl
    | simp only [← rho_ag (G := G) ht]
    | (simp only [← rho_ag (G := G) ht.left, ← rho_ag (G := G) ht.right]; done)
    | simp only [← rho_ag (G := G) ht.left]
    | skip
  · rename_i f as outs
    rw [← map_ag (G := G) ht]
    congr 1
    exact reachN_local 100 _ _ (hh.mono fun i hi => by simp only [List.mem_append]; exact .inl hi)
  · rename_i g as outs
    rw [← map_ag (G := G) ht.right]
    congr 1
    cases hg : rho G t g <;> simp only [hg] at hh ⊢
    exact reachN_local 100 _ _ (hh.mono fun i hi => by simp only [List.mem_append]; exact .inl hi)
  · rename_i f as outs
    exact absurd rfl (hb f as outs)

theorem evOp_local {o : Opr} {s s1 : St} (hb : ∀ f as outs, o.op ≠ .bcall f as outs) (he : evOp G F o s = some s1) : LocS (evOp G F o) (foot G o) o.rd o.wr s s1 := by
  have he0 := he
  have hrd1 : ∀ {r : St}, AgT o.rd s.t r.t → AgT o.op.tmps s.t r.t := fun h => h.left
  have hrd2 : ∀ {r : St}, AgT o.rd s.t r.t → AgT (guardTmps o.g) s.t r.t := fun h => h.right.left
  have hrd3 : ∀ {r : St}, AgT o.rd s.t r.t → AgT o.fz s.t r.t := fun h => h.right.right
  simp only [evOp] at he
  split at he
  · rename_i hg
    split at he
    · rename_i st' hf
      split at he
      · rename_i v h1 h2
        simp only [Option.some.injEq] at he
        subst he
        have hft : foot G o s = ((o.fz.flatMap fun i => (s.t.getD i .undef).refs) ++ fp G st'.t st'.h o.op, if o.op.cls = .r ∧ o.fz = [] then [] else (o.fz.flatMap fun i => (s.t.getD i .undef).refs) ++ fp G st'.t st'.h o.op) := by
          simp only [foot, hg, hf]
        generalize hm : (o.fz.flatMap fun i => (s.t.getD i .undef).refs) ++ fp G st'.t st'.h o.op = m at hft
        have hm1 : ∀ j ∈ o.fz, ∀ i ∈ (s.t.getD j .undef).refs, i ∈ m := fun j hj i hi => by
          rw [← hm, List.mem_append]
          exact .inl (List.mem_flatMap.2 ⟨j, hj, hi⟩)
        have hm2 : ∀ i ∈ fp G st'.t st'.h o.op, i ∈ m := fun i hi => by
          rw [← hm, List.mem_append]; exact .inr hi
        obtain ⟨⟨p1, p2, p3, p4⟩, _⟩ := frzTs_local (r := s) hm1 hf rfl rfl (fun _ _ => rfl) fun _ _ => rfl
        have hloc := (ev1_local h2 hb).mono hm2
        -- where nothing is written
        have hro : o.op.cls = .r ∧ o.fz = [] → ∀ {u : St} {w : AV} {h3 : Heap}, (frzTs o.fz u = some u) ∧ (ev1 G F u o.op = some (w, h3) → h3 = u.h) := fun hc u w h3 => by
          refine ⟨by rw [hc.2]; rfl, fun he => ?_⟩
          simp only [ev1, hc.1] at he
          split at he
          · simp only [Option.some.injEq, Prod.mk.injEq] at he
            exact he.2.symm
          · simp at he
        have but2 : ∀ {u u' : St} {w : AV} {h3 : Heap}, frzTs o.fz u = some u' → ev1 G F u' o.op = some (w, h3) → ButH m u.h h3 → ButH (foot G o s).2 u.h h3 := fun {u u' w h3} e1 e2 hbut => by
          rw [hft]
          by_cases c : o.op.cls = .r ∧ o.fz = []
          · obtain ⟨q1, _⟩ := hro c (u := u) (w := w) (h3 := h3)
            rw [q1] at e1
            injection e1 with e1
            subst e1
            obtain ⟨_, q2⟩ := hro c (u := u) (w := w) (h3 := h3)
            rw [q2 e2]
            exact .refl _ _
          · simp only [if_neg c]; exact hbut
        refine ⟨he0, by simp only [setD_len, p1], by simp only; rw [hloc.len, p2], fun i hi => ?_, but2 hf h2 (p4.trans hloc.but), fun i hi => ?_, fun r hrt hrh hat hah => ?_⟩
        · simp only [Opr.wr, List.mem_append, Option.mem_toList, not_or] at hi
          rw [setD_get, if_neg (fun c => hi.1 c.1), p3 i hi.2]
        · rw [hft] at hi ⊢
          by_cases c : o.op.cls = .r ∧ o.fz = []
          · simp [c] at hi
          · simpa only [if_neg c] using hi
        · rw [hft] at hah
          obtain ⟨_, r1, q1, q2, q3, q4, q5, q6, q7⟩ := frzTs_local hm1 hf hrt hrh (hrd3 hat) hah
          have hg' : guardOf r.t o.g = some true := by rw [← guardOf_ag (hrd2 hat)]; exact hg
          have hat' : AgT o.op.tmps st'.t r1.t := fun i hi => by
            by_cases c : i ∈ o.fz
            · exact q2 i c
            · rw [p3 i c, q6 i c]; exact hrd1 hat i hi
          have hev : ev1 G F ⟨st'.t, r1.h⟩ o.op = ev1 G F ⟨r1.t, r1.h⟩ o.op := ev1_ag hat'
          obtain ⟨k1, q8, q9, q10, q11⟩ := hloc.ag r1.h (by rw [q5, hrh, p2]) q3
          simp only [hev] at q8
          have hfp : fp G r1.t r1.h o.op = fp G st'.t st'.h o.op := fp_ag hat' hb (q3.mono hm2)
          have hfz : (o.fz.flatMap fun i => (r.t.getD i .undef).refs) = o.fz.flatMap fun i => (s.t.getD i .undef).refs := by
            rw [List.flatMap_def, List.flatMap_def]
            congr 1
            exact List.map_congr_left fun i hi => by rw [hrd3 hat i hi]
          have hrun : evOp G F o r = some ⟨setD r1.t o.dst v, k1⟩ := by
            simp only [evOp, hg', q1]
            have : ev1 G F r1 o.op = some (v, k1) := q8
            rw [this]
          refine ⟨?_, _, hrun, fun i hi => ?_, by rw [hft]; exact q9, by simp only [setD_len, q4], by simp only; rw [q10, q5], fun i hi => ?_, but2 q1 q8 (q7.trans q11)⟩
          · rw [hft]
            simp only [foot, hg', q1, hfp, hfz, hm]
          · simp only [setD_get, p1, q4, hrt]
            split
            · rfl
            · rename_i c
              simp only [Opr.wr, List.mem_append, Option.mem_toList] at hi
              by_cases c2 : i ∈ o.fz
              · exact q2 i c2
              · have hd : o.dst = some i := hi.resolve_right c2
                have hlt : ¬ i < s.t.length := fun h => c ⟨hd, h⟩
                have e1 : st'.t.getD i .undef = .undef := by simp [List.getD, List.getElem?_eq_none (show st'.t.length ≤ i by omega)]
                have e2 : r1.t.getD i .undef = .undef := by simp [List.getD, List.getElem?_eq_none (show r1.t.length ≤ i by omega)]
                rw [e1, e2]
          · simp only [Opr.wr, List.mem_append, Option.mem_toList, not_or] at hi
            rw [setD_get, if_neg (fun c => hi.1 c.1), q6 i hi.2]
      · simp at he
    · simp at he
  · rename_i hg
    simp only [Option.some.injEq] at he
    subst he
    have hft : ∀ {r : St}, AgT o.rd s.t r.t → foot G o r = ([], []) := fun {r} hat => by
      have : guardOf r.t o.g = some false := by rw [← guardOf_ag (hrd2 hat)]; exact hg
      simp only [foot, this]
    have hs := hft (r := s) fun _ _ => rfl
    refine ⟨he0, by simp [setD_len], rfl, fun i hi => ?_, by rw [hs]; exact .refl _ _, by rw [hs]; simp, fun r hrt hrh hat hah => ?_⟩
    · simp only [Opr.wr, List.mem_append, Option.mem_toList, not_or] at hi
      rw [setD_get, if_neg (fun c => hi.1 c.1)]
    · rw [hs, hft hat]
      have hg' : guardOf r.t o.g = some false := by rw [← guardOf_ag (hrd2 hat)]; exact hg
      refine ⟨rfl, ⟨setD r.t o.dst (.s undef), r.h⟩, by simp only [evOp, hg'], fun i hi => ?_, fun i hi => by simp at hi, by simp [setD_len], rfl, fun i hi => ?_, .refl _ _⟩
      · simp only [setD_get, hrt]
        split
        · rfl
        · rename_i c
          simp only [Opr.wr, List.mem_append, Option.mem_toList] at hi
          rcases hi with hd | hf
          · have hlt : ¬ i < s.t.length := fun h => c ⟨hd, h⟩
            have e1 : s.t.getD i .undef = .undef := by simp [List.getD, List.getElem?_eq_none (show s.t.length ≤ i by omega)]
            have e2 : r.t.getD i .undef = .undef := by simp [List.getD, List.getElem?_eq_none (show r.t.length ≤ i by omega)]
            rw [e1, e2]
          · exact hrd3 hat i hf
      · simp only [Opr.wr, List.mem_append, Option.mem_toList, not_or] at hi
        rw [setD_get, if_neg (fun c => hi.1 c.1)]
  · simp at he

/-- Two operations that have nothing in common. -/
def apart (p q : Opr) : Bool := disjL p.wr (q.rd ++ q.wr) && disjL q.wr p.rd

theorem disj_spec {a b : List Nat × List Nat} (h : disj a b = true) : (∀ i ∈ a.2, i ∉ b.1) ∧ ∀ i ∈ b.2, i ∉ a.1 := by
  simp only [disj, Bool.and_eq_true] at h
  exact ⟨disjL_spec h.1, disjL_spec h.2⟩

theorem swap {p q : Opr} {s s1 s2 : St} (hbp : ∀ f as outs, p.op ≠ .bcall f as outs) (hbq : ∀ f as outs, q.op ≠ .bcall f as outs) (ha : apart p q = true) (h1 : evOp G F p s = some s1) (h2 : evOp G F q s1 = some s2) (hd : disj (foot G p s) (foot G q s1) = true) :
    ∃ s1', evOp G F q s = some s1' ∧ evOp G F p s1' = some s2 ∧ foot G q s = foot G q s1 ∧ foot G p s1' = foot G p s := by
  simp only [apart, Bool.and_eq_true] at ha
  have a1 := disjL_spec ha.1
  have a2 := disjL_spec ha.2
  obtain ⟨d1, d2⟩ := disj_spec hd
  have lp := evOp_local hbp h1
  have lq := evOp_local hbq h2
  -- q first
  obtain ⟨f1, t1, e1, g1, g2, g3, g4, g5, g6⟩ := lq.ag s lp.tl.symm lp.hl.symm (fun i hi => lp.tb i fun hw => a1 i hw (by simp [hi])) fun i hi => (lp.hb i fun hw => d1 i hw hi).symm
  obtain ⟨f2, t2, e2, k1, k2, k3, k4, k5, k6⟩ := lp.ag t1 (by rw [g3]) (by rw [g4]) (fun i hi => (g5 i fun hw => a2 i hw hi).symm) fun i hi => g6 i fun hw => d2 i hw hi
  refine ⟨t1, e1, ?_, f1, f2⟩
  rw [e2]
  congr 1
  have et : t2.t = s2.t := ext_getD (by rw [k3, g3, lq.tl, lp.tl]) fun i => by
    by_cases c1 : i ∈ p.wr
    · rw [← k1 i c1, lq.tb i fun hw => a1 i c1 (by simp [hw])]
    · rw [k5 i c1]
      by_cases c2 : i ∈ q.wr
      · exact (g1 i c2).symm
      · rw [g5 i c2, lq.tb i c2, lp.tb i c1]
  have eh : t2.h = s2.h := by
    apply List.ext_getElem?
    intro i
    by_cases c1 : i ∈ (foot G p s).2
    · rw [← k2 i (lp.sub i c1), lq.hb i fun hw => d2 i hw (lp.sub i c1)]
    · rw [← k6 i c1]
      by_cases c2 : i ∈ (foot G q s1).2
      · exact (g2 i (lq.sub i c2)).symm
      · rw [← g6 i c2, ← lq.hb i c2, ← lp.hb i c1]
  cases t2; cases s2
  simp only at et eh
  rw [et, eh]

/-! ### Any order -/
/-- From 's' the operations named, in this order, lead to 'sf', with these footprints. -/
def Good (G : Cf) (F : FnEv) (op : Nat → Opr) (T : Nat → List Nat × List Nat) (sf : St) : List Nat → St → Prop
  | [], s => s = sf
  | j :: R, s => ∃ s1, evOp G F (op j) s = some s1 ∧ foot G (op j) s = T j ∧ Good G F op T sf R s1

theorem Good.bubble {op : Nat → Opr} {T : Nat → List Nat × List Nat} {sf : St} (hb : ∀ j f as outs, (op j).op ≠ .bcall f as outs) {i : Nat} {r2 : List Nat} : ∀ (r1 : List Nat) (s : St), Good G F op T sf (r1 ++ i :: r2) s →
    (∀ j ∈ r1, apart (op j) (op i) = true ∧ disj (T j) (T i) = true) → Good G F op T sf (i :: (r1 ++ r2)) s
  | [], s, h, _ => h
  | j :: r1, s, h, ha => by
    obtain ⟨s1, h1, h2, h3⟩ := h
    obtain ⟨s2, h4, h5, h6⟩ := Good.bubble hb r1 s1 h3 fun k hk => ha k (by simp [hk])
    obtain ⟨a1, a2⟩ := ha j (by simp)
    rw [← h2, ← h5] at a2
    obtain ⟨s1', k1, k2, k3, k4⟩ := swap (hb j) (hb i) a1 h1 h4 a2
    exact ⟨s1', k1, k3.trans h5, s2, k2, k4.trans h2, h6⟩

theorem good_of_ops {op : Nat → Opr} : ∀ (qs : List Opr) (b : Nat) (s sf : St) (T : Nat → List Nat × List Nat), (∀ k, k < qs.length → qs[k]? = some (op (b + k))) → (∀ k, k < qs.length → T (b + k) = (feet G F qs s).getD k ([], [])) →
    evOps G F qs s = some sf → Good G F op T sf (List.range' b qs.length) s
  | [], b, s, sf, T, _, _, he => by
    simp only [evOps, Option.some.injEq] at he
    exact he
  | q :: qs, b, s, sf, T, hq, hT, he => by
    simp only [evOps] at he
    split at he
    · rename_i s1 h1
      have hq0 : q = op b := by simpa using hq 0 (by simp)
      refine ⟨s1, hq0 ▸ h1, ?_, ?_⟩
      · have := hT 0 (by simp)
        simp only [feet, Nat.add_zero, List.getD_cons_zero] at this
        rw [this, hq0]
      · refine good_of_ops qs (b + 1) s1 sf T (fun k hk => ?_) (fun k hk => ?_) he
        · have := hq (k + 1) (by simpa using hk)
          simpa [Nat.add_assoc, Nat.add_comm 1 k] using this
        · have := hT (k + 1) (by simpa using hk)
          simp only [feet, h1, List.getD_cons_succ] at this
          rw [← this]
          congr 1
          omega
    · simp at he

end
end Go.Ev
