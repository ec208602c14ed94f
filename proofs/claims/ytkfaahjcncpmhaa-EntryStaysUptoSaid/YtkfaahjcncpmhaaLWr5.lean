/-
  Logs' bytes; the writer's and the document's are the same.
-/
import Derived.Test.YtkfaahjcncpmhaaLWr4
set_option linter.unusedSimpArgs false
set_option linter.unusedVariables false
set_option maxRecDepth 200000
set_option maxHeartbeats 4000000
namespace Go.Proofs.Ytkfaahjcncpmhaa
open Go.Ev

def Sm (a b : Wr) : Prop := a.bad = b.bad ∧ (a.bad = false → a.b = b.b)
theorem cnts_badT (w : Wr) (h : w.bad = true) : ∀ l : List Int, (w.cnts l).bad = true := fun l => by
  induction l generalizing w with
  | nil => exact h
  | cons n r ih =>
    cases hn : badN n
    · rw [cnts_ok hn]; exact ih _ h
    · rw [cnts_bad hn]
theorem rmem_badT (w : Wr) (h : w.bad = true) : ∀ l : List Int, (w.rmem l).bad = true := fun l => by
  induction l generalizing w with
  | nil => exact h
  | cons n r ih => exact ih _ (cnts_badT w h _)
theorem Sm.bad {a b : Wr} (h1 : a.bad = true) (h2 : b.bad = true) : Sm a b := ⟨by rw [h1, h2], fun h => by rw [h1] at h; cases h⟩
theorem Sm.cnt {a b : Wr} (h : Sm a b) (n : Int) : Sm (a.cnts [n]) (b.cnts [n]) := by
  cases hn : badN n
  · rw [cnt1_ok hn, cnt1_ok hn]
    exact ⟨h.1, fun x => by simp only at x ⊢; rw [h.2 x]⟩
  · rw [cnt1_bad hn, cnt1_bad hn]
    exact Sm.bad rfl rfl
theorem Sm.cnts : ∀ (l : List Int) {a b : Wr}, Sm a b → Sm (a.cnts l) (b.rmem l)
  | [], a, b, h => h
  | n :: r, a, b, h => by
    have h1 := h.cnt n
    simp only [Wr.rmem]
    cases hn : badN n
    · rw [cnt1_ok hn] at h1
      rw [cnts_ok hn]
      exact Sm.cnts r h1
    · rw [cnts_bad hn, cnt1_bad hn]
      exact Sm.bad rfl (rmem_badT _ rfl r)
theorem Sm.byt {a b : Wr} (h : Sm a b) (x : List UInt8) (m : Int) : Sm (a.byt x m) (b.rbyt x m) := by
  unfold Wr.byt Wr.rbyt
  by_cases hm : m < x.length
  · rw [if_pos (.inr hm), if_pos hm]
    exact Sm.bad rfl rfl
  · rw [if_neg hm]
    cases hb : a.bad
    · rw [if_neg (by simp [hm])]
      refine ⟨?_, fun _ => ?_⟩
      · simp only; rw [← h.1, hb]
      · simp only; rw [h.2 hb]
    · rw [if_pos (.inl rfl)]
      refine Sm.bad rfl ?_
      simp only; rw [← h.1, hb]
theorem Sm.ents : ∀ (l : List Ent) {a b : Wr}, Sm a b → Sm (a.ents l) (b.rents l)
  | [], a, b, h => h
  | e :: r, a, b, h => by
    simp only [Wr.ents, Wr.rents, Wr.rent1]
    exact Sm.ents r (Sm.byt (Sm.cnts [e.1, e.2.1] h) _ _)
theorem Sm.fin {a b : Wr} (h : Sm a b) : a.endC = b.endC ∧ a.endB = b.endB := by
  have h1 : a.endC = b.endC := by
    unfold Wr.endC
    rw [← h.1]
    cases hb : a.bad
    · rw [h.2 hb]
    · rfl
  refine ⟨h1, ?_⟩
  unfold Wr.endB
  rw [← h1]
  by_cases hc : a.endC = 0
  · rw [if_pos hc, if_pos hc]
    refine h.2 ?_
    unfold Wr.endC at hc
    split at hc
    · cases hc
    · rename_i hb
      simpa using hb
  · rw [if_neg hc, if_neg hc]
/-- A log. -/
structure LG where
  ix : Int
  tm : Int
  mem : List Int
  ents : List Ent
abbrev avLog (g : LG) : AV := .agg [i64 g.ix, i64 g.tm, .sl true (eI .i64 g.mem), .sl true (eE g.ents)]
def LG.p1 (g : LG) : Wr := Wr.cnts ⟨[], false⟩ [g.ix, g.tm]
def LG.p2 (g : LG) : Wr := (g.p1.cnts [(g.mem.length : Int)]).cnts g.mem
def LG.p (g : LG) : Wr := (g.p2.cnts [(g.ents.length : Int)]).ents g.ents
def LG.r1 (g : LG) : Wr := (Wr.cnts ⟨[], false⟩ [g.ix]).cnts [g.tm]
def LG.r2 (g : LG) : Wr := (g.r1.cnts [(g.mem.length : Int)]).rmem g.mem
def LG.r (g : LG) : Wr := (g.r2.cnts [(g.ents.length : Int)]).rents g.ents
theorem Sm.refl (w : Wr) : Sm w w := ⟨rfl, fun _ => rfl⟩
theorem log_sm (g : LG) : Sm g.p g.r := (((Sm.cnts [g.ix, g.tm] (Sm.refl ⟨[], false⟩)).cnt _).cnts g.mem |>.cnt _).ents g.ents
end Go.Proofs.Ytkfaahjcncpmhaa
