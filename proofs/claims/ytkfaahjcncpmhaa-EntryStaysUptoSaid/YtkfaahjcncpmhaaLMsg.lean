/-
  Messages' bytes.
-/
import Derived.Test.YtkfaahjcncpmhaaLEnt
import Derived.Test.YtkfaahjcncpmhaaLCodeSz
set_option linter.unusedSimpArgs false
set_option linter.unusedVariables false
set_option maxRecDepth 200000
set_option maxHeartbeats 4000000
namespace Go.Proofs.Ytkfaahjcncpmhaa
open Go.Ev

structure MG where
  kd : Int
  fr : Int
  to : Int
  tm : Int
  ix : Int
  lt : Int
  cm : Int
  ok : Bool
  ents : List Ent
  mem : List Int
  part : Int
  root : List UInt8
  tree : T
abbrev mCells (m : MG) : List AV := [i64 m.kd, i64 m.fr, i64 m.to, i64 m.tm, i64 m.ix, i64 m.lt, i64 m.cm, bo m.ok, .sl true (eE m.ents), .sl true (eI .i64 m.mem), i64 m.part, .sl true (eB m.root), i64 m.tree.kind, .sl true (eB m.tree.key), .sl true (eB m.tree.value), .sl true (eB m.tree.digest), .sl true (eT m.tree.kids)]
abbrev avMsg (m : MG) : AV := .agg (mCells m)
abbrev oMs (m : MG) : Ev.Obj := .var (mCells m)
def MG.l7 (m : MG) : List Int := [m.kd, m.fr, m.to, m.tm, m.ix, m.lt, m.cm]
def okB (b : Bool) : List UInt8 := if b = true then [1] else [0]
theorem okB_ne (b : Bool) : okB b ≠ [] := by cases b <;> simp [okB]
def Wr.ap (w : Wr) (x : List UInt8) : Wr := ⟨w.b ++ x, w.bad⟩
def Wr.or (w : Wr) (x : Bool) : Wr := ⟨w.b, w.bad || x⟩
def MG.p1 (m : MG) : Wr := Wr.cnts ⟨[], false⟩ m.l7
def MG.p2 (m : MG) : Wr := m.p1.ap (okB m.ok)
def MG.p3 (m : MG) : Wr := (m.p2.cnts [(m.ents.length : Int)]).ents m.ents
def MG.p4 (m : MG) : Wr := (m.p3.cnts [(m.mem.length : Int)]).cnts m.mem
def MG.p5 (m : MG) : Wr := m.p4.cnts [m.part]
def MG.p6 (m : MG) : Wr := m.p5.byt m.root 32
def MG.p7 (m : MG) : Wr := m.p6.or (decide (¬ wrC m.tree = 0))
def MG.p (m : MG) : Wr := m.p7.byt (wrB m.tree) (wrB m.tree).length
def MG.r1 (m : MG) : Wr := Wr.rmem ⟨[], false⟩ m.l7
def MG.r2 (m : MG) : Wr := m.r1.ap (okB m.ok)
def MG.r3 (m : MG) : Wr := (m.r2.cnts [(m.ents.length : Int)]).rents m.ents
def MG.r4 (m : MG) : Wr := (m.r3.cnts [(m.mem.length : Int)]).rmem m.mem
def MG.r5 (m : MG) : Wr := m.r4.cnts [m.part]
def MG.r6 (m : MG) : Wr := m.r5.rbyt m.root 32
def MG.r7 (m : MG) : Wr := m.r6.or (decide (¬ wrC m.tree = 0))
def MG.r (m : MG) : Wr := m.r7.rbyt (wrB m.tree) (wrB m.tree).length
theorem Sm.ap {a b : Wr} (h : Sm a b) (x : List UInt8) : Sm (a.ap x) (b.ap x) := ⟨h.1, fun hb => by simp only [Wr.ap] at hb ⊢; rw [h.2 hb]⟩
theorem Sm.or {a b : Wr} (h : Sm a b) (x : Bool) : Sm (a.or x) (b.or x) := ⟨by simp only [Wr.or]; rw [h.1], fun hb => by simp only [Wr.or, Bool.or_eq_false_iff] at hb ⊢; exact h.2 hb.1⟩
theorem msg_sm (m : MG) : Sm m.p m.r := (((((((Sm.cnts m.l7 (Sm.refl ⟨[], false⟩)).ap (okB m.ok)).cnt _).ents m.ents |>.cnt _).cnts m.mem).cnt m.part).byt m.root 32 |>.or _).byt _ _
structure MG.fit (m : MG) : Prop where
  fe : sumE m.ents ≤ 41943040
  fm : m.mem.length ≤ 1048576
  fr : m.root.length ≤ 1048576
  ft : m.tree.size ≤ 1048576
theorem wrB_len (t : T) (h : t.size ≤ 1048576) : (wrB t).length ≤ 19922944 := by
  by_cases hc : wrC t = 0
  · rw [wrB_good hc]
    have hc2 : t.chk = 0 := by
      by_cases hc2 : t.chk = 0
      · exact hc2
      · rw [wrC_bad hc2] at hc; exact hc
    have := wr_len t (chk_formed hc2)
    omega
  · rw [wrB_bad hc]; simp
theorem avM_tree (m : MG) : avT m.tree = .agg [i64 m.tree.kind, .sl true (eB m.tree.key), .sl true (eB m.tree.value), .sl true (eB m.tree.digest), .sl true (eT m.tree.kids)] := rfl
theorem eI_7 {a b c d e f g : Int} : (((((((eI .i64 [0, 0, 0, 0, 0, 0, 0]).set 0 [C.sc (.int .i64 a)]).set 1 [C.sc (.int .i64 b)]).set 2 [C.sc (.int .i64 c)]).set 3 [C.sc (.int .i64 d)]).set 4 [C.sc (.int .i64 e)]).set 5 [C.sc (.int .i64 f)]).set 6 [C.sc (.int .i64 g)] = eI .i64 [a, b, c, d, e, f, g] := rfl
theorem eI_7z {a b c d e f g : Int} : [C.sc (.int .i64 a)] :: [C.sc (.int .i64 b)] :: [C.sc (.int .i64 c)] :: [C.sc (.int .i64 d)] :: [C.sc (.int .i64 e)] :: [C.sc (.int .i64 f)] :: eI .i64 [g] = eI .i64 [a, b, c, d, e, f, g] := rfl
theorem avM_ok {m : MG} {b : Bool} (h : m.ok = b) : avMsg m = .agg [i64 m.kd, i64 m.fr, i64 m.to, i64 m.tm, i64 m.ix, i64 m.lt, i64 m.cm, bo b, .sl true (eE m.ents), .sl true (eI .i64 m.mem), i64 m.part, .sl true (eB m.root), i64 m.tree.kind, .sl true (eB m.tree.key), .sl true (eB m.tree.value), .sl true (eB m.tree.digest), .sl true (eT m.tree.kids)] := by rw [← h]
theorem eB_ne0 : (eB [0]).isEmpty = false := rfl
theorem eB_ne1 : (eB [1]).isEmpty = false := rfl
end Go.Proofs.Ytkfaahjcncpmhaa
