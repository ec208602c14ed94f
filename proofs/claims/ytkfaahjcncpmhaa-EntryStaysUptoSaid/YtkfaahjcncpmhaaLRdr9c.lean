/-
  Messages out of bytes: the program's reader, from its front to its end.
-/
import Derived.Test.YtkfaahjcncpmhaaLRdr9
set_option linter.unusedSimpArgs false
set_option linter.unusedVariables false
set_option maxRecDepth 200000
set_option maxHeartbeats 4000000
namespace Go.Proofs.Ytkfaahjcncpmhaa
open Go.Ev

theorem cnt_b {q : Rq} (h : q.bad = true) : q.cnt.2.bad = true := by
  unfold Rq.cnt
  split
  · rfl
  · exact h
theorem no_b {q : Rq} (h : q.bad = true) : q.no = true := by
  unfold Rq.no; rw [h]; rfl
theorem mems_b {q : Rq} (h : q.bad = true) : q.mems.2.bad = true := by
  unfold Rq.mems
  rw [qmem_no (no_b (cnt_b h))]
  exact cnt_b h
theorem ents_b {q : Rq} (h : q.bad = true) : q.ents.2.bad = true := by
  unfold Rq.ents
  rw [qent_no (no_b (cnt_b h))]
  exact cnt_b h
theorem fn_b {q : Rq} (h : ¬ q.fn = 3) : q.bad = false := by
  cases hb : q.bad
  · rfl
  · unfold Rq.fn at h
    rw [if_pos (no_b hb)] at h
    exact absurd rfl h
theorem good_b {a b : Bool} (h : a = true → b = true) (hb : b = false) : a = false := by
  cases a
  · rfl
  · rw [h rfl] at hb; cases hb
def G1 (b : List UInt8) : Int × Rq := (q0 b).cnt
def G2 (b : List UInt8) : Int × Rq := (G1 b).2.cnt
def G3 (b : List UInt8) : Int × Rq := (G2 b).2.cnt
def G4 (b : List UInt8) : Int × Rq := (G3 b).2.cnt
def G5 (b : List UInt8) : Int × Rq := (G4 b).2.cnt
def G6 (b : List UInt8) : Int × Rq := (G5 b).2.cnt
def G7 (b : List UInt8) : Int × Rq := (G6 b).2.cnt
def G8 (b : List UInt8) : Int × Rq := (G7 b).2.byt
def G9 (b : List UInt8) : List Ent × Rq := (G8 b).2.ents
def G10 (b : List UInt8) : List Int × Rq := (G9 b).2.mems
def G11 (b : List UInt8) : Int × Rq := (G10 b).2.cnt
def G12 (b : List UInt8) : List UInt8 × Rq := (G11 b).2.bys 32
def G13 (b : List UInt8) : T × Rq := (G12 b).2.tre
def qMsg (b : List UInt8) : MG := ⟨(G1 b).1, (G2 b).1, (G3 b).1, (G4 b).1, (G5 b).1, (G6 b).1, (G7 b).1, decide ((G8 b).1 = 1), (G9 b).1, (G10 b).1, (G11 b).1, (G12 b).1, (G13 b).1⟩
def msC (b : List UInt8) : Int := if 1048576 < b.length then 2 else (G13 b).2.fn
def msV (b : List UInt8) : MG := if msC b = 0 then qMsg b else MG.no
end Go.Proofs.Ytkfaahjcncpmhaa
