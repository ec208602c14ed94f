/-
  The two readers of counts, side by side; logs out of bytes.
-/
import Derived.Test.YtkfaahjcncpmhaaLRdr3
import Derived.Test.YtkfaahjcncpmhaaLRdr5
import Derived.Test.YtkfaahjcncpmhaaLWr5
set_option linter.unusedSimpArgs false
set_option linter.unusedVariables false
set_option maxRecDepth 200000
set_option maxHeartbeats 4000000
namespace Go.Proofs.Ytkfaahjcncpmhaa
open Go.Ev

abbrev RelQ (q : Rq) (w : Rf) : Prop := Rel q.r q.bad w
theorem RelQ.no {q : Rq} {w : Rf} (h : RelQ q w) : q.no = w.bad := h.2.1
theorem RelQ.bad {q : Rq} {w : Rf} (hw : w.ok) (h : q.no = true) (hb : w.bad = true) : RelQ q w := ⟨hw, by rw [hb]; exact h, fun h2 => by rw [hb] at h2; cases h2⟩
theorem RelQ.sim {q : Rq} {w : Rf} (h : RelQ q w) (hb : w.bad = false) : q.bad = false ∧ Sim q.r w := by
  have h1 := h.2.1
  rw [hb, Bool.or_eq_false_iff] at h1
  exact ⟨h1.1, h.2.2 hb⟩
theorem cnt_sim {q : Rq} {w : Rf} (h : RelQ q w) : RelQ q.cnt.2 w.cnt.2 ∧ (w.cnt.2.bad = false → q.cnt.1 = w.cnt.1) := by
  have hok := (w.cnt_ok h.1).1
  cases hb : w.bad
  · obtain ⟨h1, h2⟩ := h.sim hb
    obtain ⟨e1, e2⟩ := sim_num h2
    revert hok
    unfold Rq.cnt Rf.cnt
    rw [e1]
    by_cases c : 1152921504606846976 < w.num.1
    · rw [if_pos c, if_pos c]
      exact fun hok => ⟨RelQ.bad hok rfl rfl, fun _ => rfl⟩
    · rw [if_neg c, if_neg c]
      intro hok
      refine ⟨?_, fun _ => rfl⟩
      rw [h1]
      exact Rel.good e2
  · have h1 := (fcnt_left w).2 hb
    exact ⟨RelQ.bad hok (cnt_noT (by rw [h.no]; exact hb)) h1, fun h2 => by rw [h1] at h2; cases h2⟩
theorem bytes_simQ {q : Rq} {w : Rf} (h : RelQ q w) (m : Int) : RelQ ⟨(q.r.bytes m).2, q.bad⟩ (w.bytes m).2 ∧ ((w.bytes m).2.bad = false → (q.r.bytes m).1 = (w.bytes m).1) := by
  have hok := (w.bytes_ok m h.1).1
  cases hb : w.bad
  · obtain ⟨h1, h2⟩ := h.sim hb
    obtain ⟨e1, e2⟩ := sim_bytes h2 m
    rw [h1]
    exact ⟨Rel.good e2, fun _ => e1⟩
  · have h1 := (fbytes_left w m).2 hb
    refine ⟨RelQ.bad hok ?_ h1, fun h2 => by rw [h1] at h2; cases h2⟩
    have h3 := h.no
    rw [hb] at h3
    unfold Rq.no at h3 ⊢
    rw [Bool.or_eq_true] at h3 ⊢
    rcases h3 with h3 | h3
    · exact .inl h3
    · exact .inr (bytes_badT m h3)
theorem ent1_sim {q : Rq} {w : Rf} (h : RelQ q w) : RelQ q.ent1.2 w.ent1.2 ∧ (w.ent1.2.bad = false → q.ent1.1 = w.ent1.1) := by
  obtain ⟨a1, a2⟩ := cnt_sim h
  obtain ⟨b1, b2⟩ := cnt_sim a1
  obtain ⟨c1, c2⟩ := bytes_simQ b1 4096
  refine ⟨c1, fun hb => ?_⟩
  have m1 : w.cnt.2.cnt.2.bad = false := by
    cases hc : w.cnt.2.cnt.2.bad
    · rfl
    · have := (fbytes_left w.cnt.2.cnt.2 4096).2 hc
      change (w.cnt.2.cnt.2.bytes 4096).2.bad = false at hb
      rw [this] at hb; cases hb
  have m2 : w.cnt.2.bad = false := by
    cases hc : w.cnt.2.bad
    · rfl
    · rw [(fcnt_left w.cnt.2).2 hc] at m1; cases m1
  simp only [Rq.ent1, Rf.ent1]
  rw [a2 m2, b2 m1, c2 hb]
theorem qmem_sim : ∀ (n : Nat) (q : Rq) (w : Rf) (l : List Int), RelQ q w → RelQ (qmem n q l).2 (fmem n w l).2 ∧ ((fmem n w l).2.bad = false → (qmem n q l).1 = (fmem n w l).1)
  | 0, q, w, l, h => ⟨h, fun _ => rfl⟩
  | n + 1, q, w, l, h => by
    cases hb : w.bad
    · rw [fmem_go hb, qmem_go (h.no.trans hb)]
      obtain ⟨a1, a2⟩ := cnt_sim h
      cases hc : w.cnt.2.bad
      · rw [a2 hc]
        exact qmem_sim n _ _ _ a1
      · rw [fmem_no hc, qmem_no (a1.no.trans hc)]
        exact ⟨a1, fun x => by simp only at x; rw [hc] at x; cases x⟩
    · rw [fmem_no hb, qmem_no (h.no.trans hb)]
      exact ⟨h, fun _ => rfl⟩
theorem qent_sim : ∀ (n : Nat) (q : Rq) (w : Rf) (l : List Ent), RelQ q w → RelQ (qent n q l).2 (fent n w l).2 ∧ ((fent n w l).2.bad = false → (qent n q l).1 = (fent n w l).1)
  | 0, q, w, l, h => ⟨h, fun _ => rfl⟩
  | n + 1, q, w, l, h => by
    cases hb : w.bad
    · rw [fent_go hb, qent_go (h.no.trans hb)]
      obtain ⟨a1, a2⟩ := ent1_sim h
      cases hc : w.ent1.2.bad
      · rw [a2 hc]
        exact qent_sim n _ _ _ a1
      · rw [fent_no hc, qent_no (a1.no.trans hc)]
        exact ⟨a1, fun x => by simp only at x; rw [hc] at x; cases x⟩
    · rw [fent_no hb, qent_no (h.no.trans hb)]
      exact ⟨h, fun _ => rfl⟩
theorem mems_sim {q : Rq} {w : Rf} (h : RelQ q w) : RelQ q.mems.2 w.mems.2 ∧ (w.mems.2.bad = false → q.mems.1 = w.mems.1) := by
  obtain ⟨a1, a2⟩ := cnt_sim h
  unfold Rq.mems Rf.mems
  cases hc : w.cnt.2.bad
  · rw [a2 hc]
    exact qmem_sim _ _ _ _ a1
  · rw [fmem_no hc, qmem_no (a1.no.trans hc)]
    exact ⟨a1, fun _ => rfl⟩
theorem ents_sim {q : Rq} {w : Rf} (h : RelQ q w) : RelQ q.ents.2 w.ents.2 ∧ (w.ents.2.bad = false → q.ents.1 = w.ents.1) := by
  obtain ⟨a1, a2⟩ := cnt_sim h
  unfold Rq.ents Rf.ents
  cases hc : w.cnt.2.bad
  · rw [a2 hc]
    exact qent_sim _ _ _ _ a1
  · rw [fent_no hc, qent_no (a1.no.trans hc)]
    exact ⟨a1, fun _ => rfl⟩
/-! ### Once bad, always bad -/
theorem fmem_bad {n : Nat} {w : Rf} {l : List Int} (h : w.bad = true) : (fmem n w l).2.bad = true := by rw [fmem_no h]; exact h
theorem fent_bad {n : Nat} {w : Rf} {l : List Ent} (h : w.bad = true) : (fent n w l).2.bad = true := by rw [fent_no h]; exact h
theorem mems_bad {w : Rf} (h : w.bad = true) : w.mems.2.bad = true := fmem_bad ((fcnt_left w).2 h)
theorem ents_bad {w : Rf} (h : w.bad = true) : w.ents.2.bad = true := fent_bad ((fcnt_left w).2 h)
theorem good_of {a b : Bool} (h : a = true → b = true) (hb : b = false) : a = false := by
  cases a
  · rfl
  · rw [h rfl] at hb; cases hb
theorem fmem_ok : ∀ (n : Nat) (w : Rf) (l : List Int), w.ok → (fmem n w l).2.ok
  | 0, w, l, h => h
  | n + 1, w, l, h => by
    cases hb : w.bad
    · rw [fmem_go hb]; exact fmem_ok n _ _ (w.cnt_ok h).1
    · rw [fmem_no hb]; exact h
theorem fent_ok : ∀ (n : Nat) (w : Rf) (l : List Ent), w.ok → (fent n w l).2.ok
  | 0, w, l, h => h
  | n + 1, w, l, h => by
    cases hb : w.bad
    · rw [fent_go hb]; exact fent_ok n _ _ (fent1_ok w h)
    · rw [fent_no hb]; exact h
theorem mems_ok (w : Rf) (h : w.ok) : w.mems.2.ok := fmem_ok _ _ _ (w.cnt_ok h).1
theorem ents_ok (w : Rf) (h : w.ok) : w.ents.2.ok := fent_ok _ _ _ (w.cnt_ok h).1
theorem Rq.mems_le (q : Rq) : q.mems.2.r.b.length ≤ q.r.b.length ∧ q.mems.1.length ≤ q.r.b.length + 1 := by
  have h1 := q.cnt_le.1
  have h2 := qmem_le q.cnt.1.toNat q.cnt.2 []
  have h3 := (qmem_cnt q.cnt.1.toNat q.cnt.2 []).1
  simp only [List.length_nil] at h3
  unfold Rq.mems
  omega
theorem Rq.ents_le (q : Rq) : q.ents.2.r.b.length ≤ q.r.b.length ∧ sumE q.ents.1 ≤ 41 * q.r.b.length + 40 := by
  have h1 := q.cnt_le.1
  have h2 := qent_le q.cnt.1.toNat q.cnt.2 []
  have h3 := (qent_cnt q.cnt.1.toNat q.cnt.2 []).1
  simp only [sumE] at h3
  unfold Rq.ents
  omega
/-! ### Logs -/
def q0 (b : List UInt8) : Rq := ⟨⟨b, false⟩, false⟩
def Rq.fn (q : Rq) : Int := if q.no = true then 3 else q.r.fin
def qLog (b : List UInt8) : LG × Rq := (⟨(q0 b).cnt.1, (q0 b).cnt.2.cnt.1, (q0 b).cnt.2.cnt.2.mems.1, (q0 b).cnt.2.cnt.2.mems.2.ents.1⟩, (q0 b).cnt.2.cnt.2.mems.2.ents.2)
def LG.no : LG := ⟨0, 0, [], []⟩
def lgC (b : List UInt8) : Int := if 1048576 < b.length then 2 else (qLog b).2.fn
def lgV (b : List UInt8) : LG := if lgC b = 0 then (qLog b).1 else LG.no
theorem Rq.fn_c (q : Rq) : q.fn = 0 ∨ q.fn = 3 ∨ q.fn = 4 := by
  unfold Rq.fn Rd.fin
  split
  · exact .inr (.inl rfl)
  · split
    · exact .inr (.inl rfl)
    · split
      · exact .inr (.inr rfl)
      · exact .inl rfl
theorem avLog_no : avLog LG.no = .agg [i64 0, i64 0, .sl true [], .sl true []] := rfl
end Go.Proofs.Ytkfaahjcncpmhaa
