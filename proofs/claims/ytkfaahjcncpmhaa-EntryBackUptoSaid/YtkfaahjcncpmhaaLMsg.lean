/-
  Messages' bytes.
-/
import Derived.Test.YtkfaahjcncpmhaaLEnt
import Derived.Test.YtkfaahjcncpmhaaLCodeUp
set_option linter.unusedSimpArgs false
set_option linter.unusedVariables false
set_option maxRecDepth 200000
set_option maxHeartbeats 4000000
namespace Go.Proofs.Ytkfaahjcncpmhaa
open Go.Ev

structure MG where
  kd : Int
  fr : Int
  to : Int
  tm : Int
  ix : Int
  lt : Int
  cm : Int
  ok : Bool
  ents : List Ent
  mem : List Int
  part : Int
  root : List UInt8
  tree : T
abbrev mCells (m : MG) : List AV := [i64 m.kd, i64 m.fr, i64 m.to, i64 m.tm, i64 m.ix, i64 m.lt, i64 m.cm, bo m.ok, .sl true (eE m.ents), .sl true (eI .i64 m.mem), i64 m.part, .sl true (eB m.root), i64 m.tree.kind, .sl true (eB m.tree.key), .sl true (eB m.tree.value), .sl true (eB m.tree.digest), .sl true (eT m.tree.kids)]
abbrev avMsg (m : MG) : AV := .agg (mCells m)
abbrev oMs (m : MG) : Ev.Obj := .var (mCells m)
def MG.l7 (m : MG) : List Int := [m.kd, m.fr, m.to, m.tm, m.ix, m.lt, m.cm]
def okB (b : Bool) : List UInt8 := if b = true then [1] else [0]
theorem okB_ne (b : Bool) : okB b ≠ [] := by cases b <;> simp [okB]
def Wr.ap (w : Wr) (x : List UInt8) : Wr := ⟨w.b ++ x, w.bad⟩
def Wr.or (w : Wr) (x : Bool) : Wr := ⟨w.b, w.bad || x⟩
def MG.p1 (m : MG) : Wr := Wr.cnts ⟨[], false⟩ m.l7
def MG.p2 (m : MG) : Wr := m.p1.ap (okB m.ok)
def MG.p3 (m : MG) : Wr := (m.p2.cnts [(m.ents.length : Int)]).ents m.ents
def MG.p4 (m : MG) : Wr := (m.p3.cnts [(m.mem.length : Int)]).cnts m.mem
def MG.p5 (m : MG) : Wr := m.p4.cnts [m.part]
def MG.p6 (m : MG) : Wr := m.p5.byt m.root 32
def MG.p7 (m : MG) : Wr := m.p6.or (decide (¬ wrC m.tree = 0))
def MG.p (m : MG) : Wr := m.p7.byt (wrB m.tree) (wrB m.tree).length
def MG.r1 (m : MG) : Wr := Wr.rmem ⟨[], false⟩ m.l7
def MG.r2 (m : MG) : Wr := m.r1.ap (okB m.ok)
def MG.r3 (m : MG) : Wr := (m.r2.cnts [(m.ents.length : Int)]).rents m.ents
def MG.r4 (m : MG) : Wr := (m.r3.cnts [(m.mem.length : Int)]).rmem m.mem
def MG.r5 (m : MG) : Wr := m.r4.cnts [m.part]
def MG.r6 (m : MG) : Wr := m.r5.rbyt m.root 32
def MG.r7 (m : MG) : Wr := m.r6.or (decide (¬ wrC m.tree = 0))
def MG.r (m : MG) : Wr := m.r7.rbyt (wrB m.tree) (wrB m.tree).length
theorem Sm.ap {a b : Wr} (h : Sm a b) (x : List UInt8) : Sm (a.ap x) (b.ap x) := ⟨h.1, fun hb => by simp only [Wr.ap] at hb ⊢; rw [h.2 hb]⟩
theorem Sm.or {a b : Wr} (h : Sm a b) (x : Bool) : Sm (a.or x) (b.or x) := ⟨by simp only [Wr.or]; rw [h.1], fun hb => by simp only [Wr.or, Bool.or_eq_false_iff] at hb ⊢; exact h.2 hb.1⟩
theorem msg_sm (m : MG) : Sm m.p m.r := (((((((Sm.cnts m.l7 (Sm.refl ⟨[], false⟩)).ap (okB m.ok)).cnt _).ents m.ents |>.cnt _).cnts m.mem).cnt m.part).byt m.root 32 |>.or _).byt _ _
structure MG.fit (m : MG) : Prop where
  fe : sumE m.ents ≤ 41943040
  fm : m.mem.length ≤ 1048576
  fr : m.root.length ≤ 1048576
  ft : m.tree.size ≤ 1048576
theorem wrB_len (t : T) (h : t.size ≤ 1048576) : (wrB t).length ≤ 19922944 := by
  by_cases hc : wrC t = 0
  · rw [wrB_good hc]
    have hc2 : t.chk = 0 := by
      by_cases hc2 : t.chk = 0
      · exact hc2
      · rw [wrC_bad hc2] at hc; exact hc
    have := wr_len t (chk_formed hc2)
    omega
  · rw [wrB_bad hc]; simp
theorem avM_tree (m : MG) : avT m.tree = .agg [i64 m.tree.kind, .sl true (eB m.tree.key), .sl true (eB m.tree.value), .sl true (eB m.tree.digest), .sl true (eT m.tree.kids)] := rfl
theorem eI_7 {a b c d e f g : Int} : (((((((eI .i64 [0, 0, 0, 0, 0, 0, 0]).set 0 [C.sc (.int .i64 a)]).set 1 [C.sc (.int .i64 b)]).set 2 [C.sc (.int .i64 c)]).set 3 [C.sc (.int .i64 d)]).set 4 [C.sc (.int .i64 e)]).set 5 [C.sc (.int .i64 f)]).set 6 [C.sc (.int .i64 g)] = eI .i64 [a, b, c, d, e, f, g] := rfl
theorem eI_7z {a b c d e f g : Int} : [C.sc (.int .i64 a)] :: [C.sc (.int .i64 b)] :: [C.sc (.int .i64 c)] :: [C.sc (.int .i64 d)] :: [C.sc (.int .i64 e)] :: [C.sc (.int .i64 f)] :: eI .i64 [g] = eI .i64 [a, b, c, d, e, f, g] := rfl
theorem avM_ok {m : MG} {b : Bool} (h : m.ok = b) : avMsg m = .agg [i64 m.kd, i64 m.fr, i64 m.to, i64 m.tm, i64 m.ix, i64 m.lt, i64 m.cm, bo b, .sl true (eE m.ents), .sl true (eI .i64 m.mem), i64 m.part, .sl true (eB m.root), i64 m.tree.kind, .sl true (eB m.tree.key), .sl true (eB m.tree.value), .sl true (eB m.tree.digest), .sl true (eT m.tree.kids)] := by rw [← h]
theorem eB_ne0 : (eB [0]).isEmpty = false := rfl
theorem eB_ne1 : (eB [1]).isEmpty = false := rfl
theorem Write_ev (m : MG) (hf : m.fit) : Ev tab G0 n_entry_Write [avMsg m] [] = some ([.sl true (eB m.p.endB), errV m.p.endC], []) := by
  obtain ⟨he, hm, hr, ht⟩ := hf
  have hse := sumE_len m.ents
  have hwl := wrB_len m.tree ht
  have l1 := cnts_len ⟨[], false⟩ m.l7
  have l3 := ents_len (m.p2.cnts [(m.ents.length : Int)]) m.ents
  have l3' := cnt1_len m.p2 (m.ents.length : Int)
  have l4 := cnts_len (m.p3.cnts [(m.mem.length : Int)]) m.mem
  have l4' := cnt1_len m.p3 (m.mem.length : Int)
  have l5 := cnt1_len m.p4 m.part
  have l6 := byt_len m.p5 m.root 32
  have l8 := byt_len m.p7 (wrB m.tree) (wrB m.tree).length
  have l2 : m.p2.b.length = m.p1.b.length + 1 := by
    unfold MG.p2 Wr.ap okB
    cases m.ok <;> simp
  simp only [MG.l7, List.length_cons, List.length_nil] at l1
  change m.p1.b.length ≤ _ at l1
  change m.p3.b.length ≤ _ at l3
  change m.p4.b.length ≤ _ at l4
  change m.p5.b.length ≤ _ at l5
  change m.p6.b.length ≤ _ at l6
  change m.p.b.length ≤ m.p6.b.length + _ + _ at l8
  have n2 : m.p2.b ≠ [] := fun e => okB_ne m.ok (List.append_eq_nil_iff.1 e).2
  have n3 : m.p3.b ≠ [] := ents_ne _ (cnts_ne _ n2 _) _
  have n4 : m.p4.b ≠ [] := cnts_ne _ (cnts_ne _ n3 _) _
  have n5 : m.p5.b ≠ [] := cnts_ne _ n4 _
  have n6 : m.p6.b ≠ [] := byt_ne _ _ _ n5
  have n7 : m.p7.b ≠ [] := n6
  have n8 : m.p.b ≠ [] := byt_ne _ _ _ n7
  have h1 := entry_counts_ev ⟨[], false⟩ m.l7 (by simp [MG.l7]) (by simp [MG.l7])
  have h3 := entry_entries_ev m.p2 m.ents (by omega) (by omega)
  have h4 := entry_members_ev m.p3 m.mem (by omega) (by omega)
  have h5 := entry_counts_ev m.p4 [m.part] (by simp) (by simp only [List.length_cons, List.length_nil]; omega)
  have h6 := entry_bytes_ev m.p5 m.root 32 (by omega) (by omega) (by omega)
  have h7 := code_Write_ev m.tree ht
  have h8 := entry_bytes_ev m.p7 (wrB m.tree) (wrB m.tree).length (by omega) (by omega) (by change m.p6.b.length + _ ≤ _; omega)
  obtain ⟨outs, _, h9, fr, rfl⟩ := entry_end_ev m.p (by omega) n8
  change _ = some ([], inW m.p1) at h1
  change _ = some ([], inW m.p3) at h3
  change _ = some ([], inW m.p4) at h4
  change _ = some ([], inW m.p5) at h5
  change _ = some ([], inW m.p6) at h6
  change _ = some ([], inW m.p) at h8
  rw [inW_nil rfl] at h1
  rw [inW_ne n2, inW_ne n3] at h3
  rw [inW_ne n3, inW_ne n4] at h4
  rw [inW_ne n4, inW_ne n5] at h5
  rw [inW_ne n5, inW_ne n6] at h6
  rw [inW_ne n7, inW_ne n8] at h8
  rw [inW_ne n8] at h9
  have e7 : m.p7.b = m.p6.b := rfl
  have e7b : m.p7.bad = (m.p6.bad || decide (¬ wrC m.tree = 0)) := rfl
  have e2 : m.p2.b = m.p1.b ++ okB m.ok := rfl
  have e2b : m.p2.bad = m.p1.bad := rfl
  rw [e7, e7b] at h8
  rw [e2, e2b] at h3
  unfold MG.l7 at h1
  rw [avM_tree] at h7
  have eb1 : byt 1 = 1 := rfl
  have eb0 : byt 0 = 0 := rfl
  obtain ⟨v, hv, r1⟩ : ∃ v, errV m.p.endC = .s v ∧ AV.canon (.s v) = .s v := by
    rcases endC_cases m.p with h | h | h <;> rw [h]
    · exact ⟨.nilIface, rfl, rfl⟩
    · exact ⟨_, rfl, rfl⟩
    · exact ⟨_, rfl, rfl⟩
  rw [hv] at h9 ⊢
  generalize m.p.endB = eb at *
  by_cases hw : m.p1.b = []
  · rw [inW_nil hw] at h1
    rw [hw, List.nil_append] at h3
    generalize m.p1.bad = b1 at *
    generalize m.p3 = w3 at *
    generalize m.p4 = w4 at *
    generalize m.p5 = w5 at *
    generalize m.p6 = w6 at *
    generalize m.p = w8 at *
    generalize wrB m.tree = wb at *
    cases hok : m.ok
    · rw [hok, show okB false = [0] from rfl, show ([0] : List UInt8).length = 1 from rfl] at h3
      rw [avM_ok hok]
      refine Ev_run t_entry_Write rfl rfl ?_
      by_cases hc : wrC m.tree = 0
      · rw [hc, errV, if_pos rfl] at h7
        rw [decide_eq_false (by simp [hc])] at h8
        cases hb6 : w6.bad
        · simp only [hb6, Bool.or_false, Bool.or_true, Bool.false_or, Bool.true_or] at h6 h8
          simp (maxSteps := 1000000) (disch := first | omega | (simp only [lens, List.length_map]; omega)) only [go_sem, ↓reduceIte, Nat.reduceSub, Nat.reduceAdd, Nat.reduceMul, Nat.reduceLeDiff, Nat.reduceLT, Nat.reduceEqDiff, Nat.reduceBEq, Int.reduceLE, Int.reduceLT, Int.reduceEq, Int.reduceNeg, Int.reduceAdd, Int.reduceSub, Int.reduceMul, Int.reduceToNat, i_entry_Write, eI_7, eI_7z, eI_1, eI_s1, eB_ne0, eb0, h1, h3, h4, h5, h6, h7, h8, h9, r1]
        · simp only [hb6, Bool.or_false, Bool.or_true, Bool.false_or, Bool.true_or] at h6 h8
          simp (maxSteps := 1000000) (disch := first | omega | (simp only [lens, List.length_map]; omega)) only [go_sem, ↓reduceIte, Nat.reduceSub, Nat.reduceAdd, Nat.reduceMul, Nat.reduceLeDiff, Nat.reduceLT, Nat.reduceEqDiff, Nat.reduceBEq, Int.reduceLE, Int.reduceLT, Int.reduceEq, Int.reduceNeg, Int.reduceAdd, Int.reduceSub, Int.reduceMul, Int.reduceToNat, i_entry_Write, eI_7, eI_7z, eI_1, eI_s1, eB_ne0, eb0, h1, h3, h4, h5, h6, h7, h8, h9, r1]
      · rw [errV, if_neg hc] at h7
        rw [decide_eq_true hc] at h8
        generalize wrC m.tree = wc at *
        cases hb6 : w6.bad
        · simp only [hb6, Bool.or_false, Bool.or_true, Bool.false_or, Bool.true_or] at h6 h8
          simp (maxSteps := 1000000) (disch := first | omega | (simp only [lens, List.length_map]; omega)) only [go_sem, ↓reduceIte, Nat.reduceSub, Nat.reduceAdd, Nat.reduceMul, Nat.reduceLeDiff, Nat.reduceLT, Nat.reduceEqDiff, Nat.reduceBEq, Int.reduceLE, Int.reduceLT, Int.reduceEq, Int.reduceNeg, Int.reduceAdd, Int.reduceSub, Int.reduceMul, Int.reduceToNat, i_entry_Write, eI_7, eI_7z, eI_1, eI_s1, eB_ne0, eb0, h1, h3, h4, h5, h6, h7, h8, h9, r1]
        · simp only [hb6, Bool.or_false, Bool.or_true, Bool.false_or, Bool.true_or] at h6 h8
          simp (maxSteps := 1000000) (disch := first | omega | (simp only [lens, List.length_map]; omega)) only [go_sem, ↓reduceIte, Nat.reduceSub, Nat.reduceAdd, Nat.reduceMul, Nat.reduceLeDiff, Nat.reduceLT, Nat.reduceEqDiff, Nat.reduceBEq, Int.reduceLE, Int.reduceLT, Int.reduceEq, Int.reduceNeg, Int.reduceAdd, Int.reduceSub, Int.reduceMul, Int.reduceToNat, i_entry_Write, eI_7, eI_7z, eI_1, eI_s1, eB_ne0, eb0, h1, h3, h4, h5, h6, h7, h8, h9, r1]
    · rw [hok, show okB true = [1] from rfl, show ([1] : List UInt8).length = 1 from rfl] at h3
      rw [avM_ok hok]
      refine Ev_run t_entry_Write rfl rfl ?_
      by_cases hc : wrC m.tree = 0
      · rw [hc, errV, if_pos rfl] at h7
        rw [decide_eq_false (by simp [hc])] at h8
        cases hb6 : w6.bad
        · simp only [hb6, Bool.or_false, Bool.or_true, Bool.false_or, Bool.true_or] at h6 h8
          simp (maxSteps := 1000000) (disch := first | omega | (simp only [lens, List.length_map]; omega)) only [go_sem, ↓reduceIte, Nat.reduceSub, Nat.reduceAdd, Nat.reduceMul, Nat.reduceLeDiff, Nat.reduceLT, Nat.reduceEqDiff, Nat.reduceBEq, Int.reduceLE, Int.reduceLT, Int.reduceEq, Int.reduceNeg, Int.reduceAdd, Int.reduceSub, Int.reduceMul, Int.reduceToNat, i_entry_Write, eI_7, eI_7z, eI_1, eI_s1, eB_ne1, eb1, h1, h3, h4, h5, h6, h7, h8, h9, r1]
        · simp only [hb6, Bool.or_false, Bool.or_true, Bool.false_or, Bool.true_or] at h6 h8
          simp (maxSteps := 1000000) (disch := first | omega | (simp only [lens, List.length_map]; omega)) only [go_sem, ↓reduceIte, Nat.reduceSub, Nat.reduceAdd, Nat.reduceMul, Nat.reduceLeDiff, Nat.reduceLT, Nat.reduceEqDiff, Nat.reduceBEq, Int.reduceLE, Int.reduceLT, Int.reduceEq, Int.reduceNeg, Int.reduceAdd, Int.reduceSub, Int.reduceMul, Int.reduceToNat, i_entry_Write, eI_7, eI_7z, eI_1, eI_s1, eB_ne1, eb1, h1, h3, h4, h5, h6, h7, h8, h9, r1]
      · rw [errV, if_neg hc] at h7
        rw [decide_eq_true hc] at h8
        generalize wrC m.tree = wc at *
        cases hb6 : w6.bad
        · simp only [hb6, Bool.or_false, Bool.or_true, Bool.false_or, Bool.true_or] at h6 h8
          simp (maxSteps := 1000000) (disch := first | omega | (simp only [lens, List.length_map]; omega)) only [go_sem, ↓reduceIte, Nat.reduceSub, Nat.reduceAdd, Nat.reduceMul, Nat.reduceLeDiff, Nat.reduceLT, Nat.reduceEqDiff, Nat.reduceBEq, Int.reduceLE, Int.reduceLT, Int.reduceEq, Int.reduceNeg, Int.reduceAdd, Int.reduceSub, Int.reduceMul, Int.reduceToNat, i_entry_Write, eI_7, eI_7z, eI_1, eI_s1, eB_ne1, eb1, h1, h3, h4, h5, h6, h7, h8, h9, r1]
        · simp only [hb6, Bool.or_false, Bool.or_true, Bool.false_or, Bool.true_or] at h6 h8
          simp (maxSteps := 1000000) (disch := first | omega | (simp only [lens, List.length_map]; omega)) only [go_sem, ↓reduceIte, Nat.reduceSub, Nat.reduceAdd, Nat.reduceMul, Nat.reduceLeDiff, Nat.reduceLT, Nat.reduceEqDiff, Nat.reduceBEq, Int.reduceLE, Int.reduceLT, Int.reduceEq, Int.reduceNeg, Int.reduceAdd, Int.reduceSub, Int.reduceMul, Int.reduceToNat, i_entry_Write, eI_7, eI_7z, eI_1, eI_s1, eB_ne1, eb1, h1, h3, h4, h5, h6, h7, h8, h9, r1]
  · rw [inW_ne hw] at h1
    generalize m.p3 = w3 at *
    generalize m.p4 = w4 at *
    generalize m.p5 = w5 at *
    generalize m.p6 = w6 at *
    generalize m.p = w8 at *
    generalize m.p1 = w1 at *
    generalize wrB m.tree = wb at *
    cases hok : m.ok
    · rw [hok, show okB false = [0] from rfl, List.length_append, List.length_singleton] at h3
      rw [avM_ok hok]
      refine Ev_run t_entry_Write rfl rfl ?_
      by_cases hc : wrC m.tree = 0
      · rw [hc, errV, if_pos rfl] at h7
        rw [decide_eq_false (by simp [hc])] at h8
        cases hb6 : w6.bad
        · simp only [hb6, Bool.or_false, Bool.or_true, Bool.false_or, Bool.true_or] at h6 h8
          simp (maxSteps := 1000000) (disch := first | omega | (simp only [lens, List.length_map]; omega)) only [go_sem, ↓reduceIte, Nat.reduceSub, Nat.reduceAdd, Nat.reduceMul, Nat.reduceLeDiff, Nat.reduceLT, Nat.reduceEqDiff, Nat.reduceBEq, Int.reduceLE, Int.reduceLT, Int.reduceEq, Int.reduceNeg, Int.reduceAdd, Int.reduceSub, Int.reduceMul, Int.reduceToNat, i_entry_Write, eI_7, eI_7z, eI_1, eI_s1, eB_ne0, eb0, h1, h3, h4, h5, h6, h7, h8, h9, r1]
        · simp only [hb6, Bool.or_false, Bool.or_true, Bool.false_or, Bool.true_or] at h6 h8
          simp (maxSteps := 1000000) (disch := first | omega | (simp only [lens, List.length_map]; omega)) only [go_sem, ↓reduceIte, Nat.reduceSub, Nat.reduceAdd, Nat.reduceMul, Nat.reduceLeDiff, Nat.reduceLT, Nat.reduceEqDiff, Nat.reduceBEq, Int.reduceLE, Int.reduceLT, Int.reduceEq, Int.reduceNeg, Int.reduceAdd, Int.reduceSub, Int.reduceMul, Int.reduceToNat, i_entry_Write, eI_7, eI_7z, eI_1, eI_s1, eB_ne0, eb0, h1, h3, h4, h5, h6, h7, h8, h9, r1]
      · rw [errV, if_neg hc] at h7
        rw [decide_eq_true hc] at h8
        generalize wrC m.tree = wc at *
        cases hb6 : w6.bad
        · simp only [hb6, Bool.or_false, Bool.or_true, Bool.false_or, Bool.true_or] at h6 h8
          simp (maxSteps := 1000000) (disch := first | omega | (simp only [lens, List.length_map]; omega)) only [go_sem, ↓reduceIte, Nat.reduceSub, Nat.reduceAdd, Nat.reduceMul, Nat.reduceLeDiff, Nat.reduceLT, Nat.reduceEqDiff, Nat.reduceBEq, Int.reduceLE, Int.reduceLT, Int.reduceEq, Int.reduceNeg, Int.reduceAdd, Int.reduceSub, Int.reduceMul, Int.reduceToNat, i_entry_Write, eI_7, eI_7z, eI_1, eI_s1, eB_ne0, eb0, h1, h3, h4, h5, h6, h7, h8, h9, r1]
        · simp only [hb6, Bool.or_false, Bool.or_true, Bool.false_or, Bool.true_or] at h6 h8
          simp (maxSteps := 1000000) (disch := first | omega | (simp only [lens, List.length_map]; omega)) only [go_sem, ↓reduceIte, Nat.reduceSub, Nat.reduceAdd, Nat.reduceMul, Nat.reduceLeDiff, Nat.reduceLT, Nat.reduceEqDiff, Nat.reduceBEq, Int.reduceLE, Int.reduceLT, Int.reduceEq, Int.reduceNeg, Int.reduceAdd, Int.reduceSub, Int.reduceMul, Int.reduceToNat, i_entry_Write, eI_7, eI_7z, eI_1, eI_s1, eB_ne0, eb0, h1, h3, h4, h5, h6, h7, h8, h9, r1]
    · rw [hok, show okB true = [1] from rfl, List.length_append, List.length_singleton] at h3
      rw [avM_ok hok]
      refine Ev_run t_entry_Write rfl rfl ?_
      by_cases hc : wrC m.tree = 0
      · rw [hc, errV, if_pos rfl] at h7
        rw [decide_eq_false (by simp [hc])] at h8
        cases hb6 : w6.bad
        · simp only [hb6, Bool.or_false, Bool.or_true, Bool.false_or, Bool.true_or] at h6 h8
          simp (maxSteps := 1000000) (disch := first | omega | (simp only [lens, List.length_map]; omega)) only [go_sem, ↓reduceIte, Nat.reduceSub, Nat.reduceAdd, Nat.reduceMul, Nat.reduceLeDiff, Nat.reduceLT, Nat.reduceEqDiff, Nat.reduceBEq, Int.reduceLE, Int.reduceLT, Int.reduceEq, Int.reduceNeg, Int.reduceAdd, Int.reduceSub, Int.reduceMul, Int.reduceToNat, i_entry_Write, eI_7, eI_7z, eI_1, eI_s1, eB_ne1, eb1, h1, h3, h4, h5, h6, h7, h8, h9, r1]
        · simp only [hb6, Bool.or_false, Bool.or_true, Bool.false_or, Bool.true_or] at h6 h8
          simp (maxSteps := 1000000) (disch := first | omega | (simp only [lens, List.length_map]; omega)) only [go_sem, ↓reduceIte, Nat.reduceSub, Nat.reduceAdd, Nat.reduceMul, Nat.reduceLeDiff, Nat.reduceLT, Nat.reduceEqDiff, Nat.reduceBEq, Int.reduceLE, Int.reduceLT, Int.reduceEq, Int.reduceNeg, Int.reduceAdd, Int.reduceSub, Int.reduceMul, Int.reduceToNat, i_entry_Write, eI_7, eI_7z, eI_1, eI_s1, eB_ne1, eb1, h1, h3, h4, h5, h6, h7, h8, h9, r1]
      · rw [errV, if_neg hc] at h7
        rw [decide_eq_true hc] at h8
        generalize wrC m.tree = wc at *
        cases hb6 : w6.bad
        · simp only [hb6, Bool.or_false, Bool.or_true, Bool.false_or, Bool.true_or] at h6 h8
          simp (maxSteps := 1000000) (disch := first | omega | (simp only [lens, List.length_map]; omega)) only [go_sem, ↓reduceIte, Nat.reduceSub, Nat.reduceAdd, Nat.reduceMul, Nat.reduceLeDiff, Nat.reduceLT, Nat.reduceEqDiff, Nat.reduceBEq, Int.reduceLE, Int.reduceLT, Int.reduceEq, Int.reduceNeg, Int.reduceAdd, Int.reduceSub, Int.reduceMul, Int.reduceToNat, i_entry_Write, eI_7, eI_7z, eI_1, eI_s1, eB_ne1, eb1, h1, h3, h4, h5, h6, h7, h8, h9, r1]
        · simp only [hb6, Bool.or_false, Bool.or_true, Bool.false_or, Bool.true_or] at h6 h8
          simp (maxSteps := 1000000) (disch := first | omega | (simp only [lens, List.length_map]; omega)) only [go_sem, ↓reduceIte, Nat.reduceSub, Nat.reduceAdd, Nat.reduceMul, Nat.reduceLeDiff, Nat.reduceLT, Nat.reduceEqDiff, Nat.reduceBEq, Int.reduceLE, Int.reduceLT, Int.reduceEq, Int.reduceNeg, Int.reduceAdd, Int.reduceSub, Int.reduceMul, Int.reduceToNat, i_entry_Write, eI_7, eI_7z, eI_1, eI_s1, eB_ne1, eb1, h1, h3, h4, h5, h6, h7, h8, h9, r1]

end Go.Proofs.Ytkfaahjcncpmhaa
