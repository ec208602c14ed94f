/-
  A piece of code at a time; what stands below; a byte that nobody else has is written.
-/
import Derived.Test.YtfihodpdjpcpfaaEvE
set_option linter.unusedSimpArgs false
set_option linter.unusedVariables false
set_option maxRecDepth 200000
set_option maxHeartbeats 4000000
namespace Go.Proofs.Ytfihodpdjpcpfaa
open Go.Ev

theorem seg_ok {P : Program} {G : Cf} {tab : Nat → Option Ev.Fn} (ht : TabOk P tab) (hX : XOk P G) (hg : G.gf = true → ∀ g, G.G g = []) {code : Code} {an ir : IR} {x : Cx} {st : St} {a : Act} {ns : Nat} {e : Ex} {st' : St} {Q : Exit → Act → World → Prop}
    (htr : trIR P code an = some ir) (hs : RelS G x st a) (he : app tab G ns [] (ex tab G ns ir st) = some (e, st'))
    (hQ : ∀ x' a', RelS G x' st' a' → SStep ns x st.h x' st'.h → a'.defers = a.defers → Q (exM e) a' x'.w) : code.wp P Q a x.w := by
  have he' : evIR G LoopL (Ev tab G) ns ir st = some (e, st') := he
  obtain ⟨n0, hn⟩ := cont_ir ns ir he'
  exact evIR_ok (evN_ok ht hX hg n0) n0 ns code an ir htr hs (hn n0 (Nat.le_refl _)) hQ
/-- What stands below is as it was. -/
theorem invLow {G : Cf} {x : Cx} {h : Heap} (hi : Inv G x h) {w' : World} (hz : x.w.heap.size ≤ w'.heap.size) (hb : ∀ b, b < x.w.heap.size → w'.heap[b]? = x.w.heap[b]?) : Inv G { x with w := w' } h ∧ Ext x { x with w := w' } := by
  have hc : ∀ b o, x.S b o → w'.cell? ⟨b, o, none⟩ = x.w.cell? ⟨b, o, none⟩ := fun b o hS => by simp [World.cell?, hb b (hi.sh b o hS)]
  have he : Ext x { x with w := w' } := ⟨rfl, fun b o hS => ⟨hS, hc b o hS⟩⟩
  refine ⟨?_, he⟩
  exact {
    obj := fun id o hg => by
      by_cases hd : o = .dead
      · subst hd; trivial
      · exact (hi.obj id o hg).mono he (hb _ (block_lt hi hg hd)) rfl rfl fun j _ => .same rfl rfl rfl
    inj := hi.inj
    own := hi.own
    sh := fun b o hS => Nat.lt_of_lt_of_le (hi.sh b o hS) hz
    live := hi.live
    glob := fun g j c hg => by
      obtain ⟨h1, v, h2, h3⟩ := hi.glob g j c hg
      exact ⟨h1, v, (hc g j h1).trans h2, h3.mono fun b o hS => he.cells b o hS⟩ }
theorem relSLow {G : Cf} {x : Cx} {st st' : St} {a a' : Act} (hs : RelS G x st a) {w' : World} (hz : x.w.heap.size ≤ w'.heap.size) (hb : ∀ b, b < x.w.heap.size → w'.heap[b]? = x.w.heap[b]?)
    (hh : st'.h = st.h) (hl : st'.t.length = st.t.length) (hsz : a'.tmps.size = a.tmps.size) (hv : ∀ i, i < st'.t.length → (st'.t.getD i .undef = st.t.getD i .undef ∧ a'.tmps.getD i undef = a.tmps.getD i undef) ∨ (∃ v, st'.t.getD i .undef = .s v ∧ a'.tmps.getD i undef = v) ∨ st'.t.getD i .undef = .undef) : RelS G { x with w := w' } st' a' := by
  obtain ⟨h1, h2⟩ := invLow hs.inv hz hb
  exact {
    inv := by rw [hh]; exact h1
    b0 := Nat.le_trans hs.b0 hz
    size := by rw [hsz, hs.size, hl]
    vals := fun i hi => by
      rw [hh]
      rcases hv i hi with ⟨h3, h4⟩ | ⟨v, h3, h4⟩ | h3
      · rw [h3, h4]
        exact (hs.val i).mono h2 fun j _ => .same rfl rfl rfl
      · rw [h3, h4]; exact .s v
      · rw [h3]; exact .undef _
    live := fun id hid => by
      obtain ⟨i, h5, h6⟩ := mem_refsL_getD hid
      rw [hh]
      rcases hv i h5 with ⟨h3, _⟩ | ⟨v, h3, _⟩ | h3
      · rw [h3] at h6
        exact hs.live id (getD_mem h6)
      · rw [h3] at h6; simp [AV.refs] at h6
      · rw [h3] at h6; simp [AV.refs] at h6 }
/-! ### A byte is written -/
theorem byte_rep {w : World} {S : Nat → Nat → Prop} {l : List Int} {v : Value} (hr : Rep w S (.sl (eI .u8 l)) v) {b o : Nat} {z z' : Int} (hc : w.cell? ⟨b, o, none⟩ = some (.int .u8 z)) :
    ∃ l' : List Int, l'.length = l.length ∧ Rep (w.setCell ⟨b, o, none⟩ (.int .u8 z')) S (.sl (eI .u8 l')) v := by
  generalize hl : eI .u8 l = m at hr
  have hln : m.length = l.length := by rw [← hl, eI_len]
  cases hr with
  | nil base cap h0 =>
    have : l = [] := List.eq_nil_of_length_eq_zero (by simpa using hln.symm)
    subst this
    exact ⟨[], rfl, .nil base cap h0⟩
  | sl _ sz b1 o1 cap vals hne hsz hcap hcl hrr =>
    have hs1 : sz = 1 := by
      cases l with
      | nil => exact absurd hl.symm hne
      | cons a l =>
        have := hsz [.sc (.int .u8 a)] (by rw [← hl]; simp [eI])
        simpa using this.symm
    subst hs1
    have hval : ∀ j, j < l.length → vals j = .int .u8 (l.getD j 0) := fun j hj => by
      have h1 : m[j]? = some [.sc (.int .u8 (l.getD j 0))] := by rw [← hl]; exact eI_get hj
      have := hrr j 0 _ (.sc (.int .u8 (l.getD j 0))) h1 rfl
      simp only [Nat.mul_one, Nat.add_zero] at this
      generalize vals j = u at this
      cases this
      rfl
    let f : Nat → Int := fun j => if b1 = b ∧ o1 + j = o then z' else l.getD j 0
    have hfl : ((List.range l.length).map f).length = l.length := by simp
    refine ⟨(List.range l.length).map f, hfl, ?_⟩
    have hlen : (eI .u8 ((List.range l.length).map f)).length = m.length := by rw [eI_len, hfl, hln]
    have hg : ∀ i, i < l.length → (eI .u8 ((List.range l.length).map f))[i]? = some [.sc (.int .u8 (f i))] := fun i hi => by
      simp [eI, hi]
    rw [← hlen]
    refine .sl _ 1 b1 o1 cap (fun j => .int .u8 (f j)) (fun hn => ?_) (fun e he => ?_) (by rw [hlen]; exact hcap) (fun j hj => ?_) fun i k e c h1 h2 => ?_
    · rw [hn] at hlen
      exact hne (List.eq_nil_of_length_eq_zero hlen.symm)
    · simp only [eI, List.mem_map] at he
      obtain ⟨q, _, rfl⟩ := he
      rfl
    · rw [hlen, Nat.mul_one] at hj
      obtain ⟨h3, h4⟩ := hcl j (by omega)
      refine ⟨h3, ?_⟩
      by_cases c : b1 = b ∧ o1 + j = o
      · obtain ⟨rfl, rfl⟩ := c
        have : f j = z' := if_pos ⟨rfl, rfl⟩
        rw [this]
        exact World.cell?_setCell_same _ _ _ hc
      · have : f j = l.getD j 0 := if_neg c
        rw [this, ← hval j (by omega), World.cell?_setCell_other _ _ _ _ (fun h => c (by injection h with h5 h6; exact ⟨h5.symm, h6.symm⟩))]
        exact h4
    · have hi : i < l.length := by
        have := (List.getElem?_eq_some_iff.1 h1).1
        omega
      rw [hg i hi] at h1
      injection h1 with h1
      subst h1
      cases k with
      | zero =>
        simp only [List.getElem?_cons_zero, Option.some.injEq] at h2
        subst h2
        simp only [Nat.mul_one, Nat.add_zero]
        exact .sc _ rfl
      | succ k => simp at h2
/-- Pairs of bytes, as cells. -/
def qP (l : List (List Int × List Int)) : List (List C) := l.map fun p => [.sl (eI .u8 p.1), .sl (eI .u8 p.2)]
theorem qP_len {l : List (List Int × List Int)} : (qP l).length = l.length := by simp [qP]
theorem qP_sz {l : List (List Int × List Int)} : szOk 2 (qP l) = true := by simp [szOk, qP]
theorem qP_get {l : List (List Int × List Int)} {i : Nat} (h : i < l.length) : (qP l)[i]? = some [.sl (eI .u8 (l.getD i ([], [])).1), .sl (eI .u8 (l.getD i ([], [])).2)] := by
  simp [qP, List.getD, h]
attribute [go_sem] qP_len qP_sz qP_get
/-- As many, each as long. -/
def likeQ (l m : List (List Int × List Int)) : Prop := m.length = l.length ∧ ∀ i, i < l.length → (m.getD i ([], [])).2.length = (l.getD i ([], [])).2.length
theorem likeQ.trans {a b c : List (List Int × List Int)} (h : likeQ a b) (h' : likeQ b c) : likeQ a c := ⟨h'.1.trans h.1, fun i hi => (h'.2 i (by rw [h.1]; exact hi)).trans (h.2 i hi)⟩
theorem slice_of {w : World} {S : Nat → Nat → Prop} {l : List (List C)} {v : Value} (hr : Rep w S (.sl l) v) : ∃ b n c, v = .slice b n c := by
  cases hr with
  | nil b c h => exact ⟨_, _, _, rfl⟩
  | sl _ _ _ _ _ _ => exact ⟨_, _, _, rfl⟩
theorem pairs_rep {w : World} {S : Nat → Nat → Prop} {l : List (List Int × List Int)} {v : Value} (hr : Rep w S (.sl (qP l)) v) {b o : Nat} {z z' : Int} (hc : w.cell? ⟨b, o, none⟩ = some (.int .u8 z)) :
    ∃ l' : List (List Int × List Int), likeQ l l' ∧ Rep (w.setCell ⟨b, o, none⟩ (.int .u8 z')) S (.sl (qP l')) v := by
  generalize hl : qP l = m at hr
  have hln : m.length = l.length := by rw [← hl, qP_len]
  cases hr with
  | nil base cap h0 =>
    have : l = [] := List.eq_nil_of_length_eq_zero (by simpa using hln.symm)
    subst this
    exact ⟨[], ⟨rfl, fun i hi => rfl⟩, .nil base cap h0⟩
  | sl _ sz b1 o1 cap vals hne hsz hcap hcl hrr =>
    have hs2 : sz = 2 := by
      cases l with
      | nil => exact absurd hl.symm hne
      | cons a l =>
        have := hsz [.sl (eI .u8 a.1), .sl (eI .u8 a.2)] (by rw [← hl]; simp [qP])
        simpa using this.symm
    subst hs2
    have hi : ∀ i, i < l.length → m[i]? = some [.sl (eI .u8 (l.getD i ([], [])).1), .sl (eI .u8 (l.getD i ([], [])).2)] := fun i h => by rw [← hl]; exact qP_get h
    have hk : ∀ i, i < l.length → ∃ p : List Int × List Int, p.2.length = (l.getD i ([], [])).2.length ∧ Rep (w.setCell ⟨b, o, none⟩ (.int .u8 z')) S (.sl (eI .u8 p.1)) (vals (i * 2 + 0)) ∧ Rep (w.setCell ⟨b, o, none⟩ (.int .u8 z')) S (.sl (eI .u8 p.2)) (vals (i * 2 + 1)) := fun i h => by
      obtain ⟨k', h1, h2⟩ := byte_rep (z' := z') (hrr i 0 _ _ (hi i h) rfl) hc
      obtain ⟨v', h3, h4⟩ := byte_rep (z' := z') (hrr i 1 _ _ (hi i h) rfl) hc
      exact ⟨(k', v'), h3, h2, h4⟩
    let f : Nat → List Int × List Int := fun i => if h : i < l.length then Classical.choose (hk i h) else ([], [])
    have hf : ∀ i, (h : i < l.length) → (f i).2.length = (l.getD i ([], [])).2.length ∧ Rep (w.setCell ⟨b, o, none⟩ (.int .u8 z')) S (.sl (eI .u8 (f i).1)) (vals (i * 2 + 0)) ∧ Rep (w.setCell ⟨b, o, none⟩ (.int .u8 z')) S (.sl (eI .u8 (f i).2)) (vals (i * 2 + 1)) := fun i h => by
      simp only [f, dif_pos h]
      exact Classical.choose_spec (hk i h)
    have hfl : ((List.range l.length).map f).length = l.length := by simp
    have hgf : ∀ i, i < l.length → ((List.range l.length).map f).getD i ([], []) = f i := fun i h => by simp [List.getD, h]
    refine ⟨(List.range l.length).map f, ⟨hfl, fun i h => by rw [hgf i h]; exact (hf i h).1⟩, ?_⟩
    have hlen : (qP ((List.range l.length).map f)).length = m.length := by rw [qP_len, hfl, hln]
    rw [← hlen]
    refine .sl _ 2 b1 o1 cap vals (fun hn => ?_) (fun e he => ?_) (by rw [hlen]; exact hcap) (fun j hj => ?_) fun i k e c h1 h2 => ?_
    · rw [hn] at hlen
      exact hne (List.eq_nil_of_length_eq_zero hlen.symm)
    · simp only [qP, List.mem_map] at he
      obtain ⟨q, _, rfl⟩ := he
      rfl
    · rw [hlen] at hj
      obtain ⟨h3, h4⟩ := hcl j hj
      refine ⟨h3, ?_⟩
      rw [World.cell?_setCell_other _ _ _ _ (fun h => ?_)]
      · exact h4
      · rw [← h, hc] at h4
        injection h4 with h4
        have hj2 : j / 2 < l.length := by omega
        have hv : ∃ b n c, vals j = .slice b n c := by
          have hm := Nat.mod_two_eq_zero_or_one j
          have hd := Nat.div_add_mod j 2
          rcases hm with hm | hm
          · have := slice_of (hrr (j / 2) 0 _ _ (hi _ hj2) rfl)
            rwa [show j / 2 * 2 + 0 = j by omega] at this
          · have := slice_of (hrr (j / 2) 1 _ _ (hi _ hj2) rfl)
            rwa [show j / 2 * 2 + 1 = j by omega] at this
        obtain ⟨_, _, _, hv⟩ := hv
        rw [hv] at h4
        cases h4
    · have hil : i < l.length := by
        have := (List.getElem?_eq_some_iff.1 h1).1
        omega
      have hq := qP_get (l := (List.range l.length).map f) (i := i) (by rw [hfl]; exact hil)
      rw [hgf i hil] at hq
      rw [hq] at h1
      injection h1 with h1
      subst h1
      match k, h2 with
      | 0, h2 =>
        simp only [List.getElem?_cons_zero, Option.some.injEq] at h2
        subst h2
        exact (hf i hil).2.1
      | 1, h2 =>
        simp only [List.getElem?_cons_succ, List.getElem?_cons_zero, Option.some.injEq] at h2
        subst h2
        exact (hf i hil).2.2
      | k + 2, h2 => simp at h2

end Go.Proofs.Ytfihodpdjpcpfaa
