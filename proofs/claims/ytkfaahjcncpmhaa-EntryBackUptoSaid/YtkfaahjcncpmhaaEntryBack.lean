/-
  Logs and messages that were written are read as they were: the law.
-/
import Derived.Test.YtkfaahjcncpmhaaLEntB
import Derived.Test.YtkfaahjcncpmhaaLTree5
set_option linter.unusedSimpArgs false
set_option linter.unusedVariables false
set_option maxRecDepth 200000
set_option maxHeartbeats 4000000
namespace Go.Proofs.Ytkfaahjcncpmhaa
open Go.Ev

theorem msV_no {b : List UInt8} (h : ¬ msC b = 0) : msV b = MG.no := if_neg h
theorem read_less {m : MG} (h : m.p.endC = 0) : Ev tab G0 n_entry_Read [.sl true (eB (m.p.endB.take (m.p.endB.length - 1)))] [] = some ([avMsg MG.no, errA 3], []) := by
  have hl := (msg_good h).2.2
  have h1 := Read_ev m.p.endB.dropLast (by rw [List.length_dropLast]; omega)
  have h2 := msg_less h
  rw [msV_no (by rw [h2]; decide), h2, errV, if_neg (by decide), List.dropLast_eq_take] at h1
  exact h1
theorem read_more {m : MG} (h : m.p.endC = 0) (hs : m.tree.size ≤ 1048576) (x : UInt8) : Ev tab G0 n_entry_Read [.sl true (eB (m.p.endB ++ [x]))] [] = some ([avMsg MG.no, errA (if m.p.endB.length = 1048576 then 2 else 4)], []) := by
  have hl := (msg_good h).2.2
  have h1 := Read_ev (m.p.endB ++ [x]) (by rw [List.length_append, List.length_singleton]; omega)
  have h2 := msg_more h hs x
  have hn : ¬ (if m.p.endB.length = 1048576 then (2 : Int) else 4) = 0 := by split <;> decide
  rw [msV_no (by rw [h2]; exact hn), h2, errV, if_neg hn] at h1
  exact h1
theorem msg_len {m : MG} (h : m.p.endC = 0) : 0 < m.p.endB.length := by
  obtain ⟨_, hb, _⟩ := msg_good h
  have l1 := enc_len m (byts (wrB m.tree))
  rw [← hb] at l1
  have := List.length_pos_iff.2 (byts_ne2 (wrB m.tree))
  omega
theorem law_EntryBack (g : LG) (m : MG) (x : Int) (gm : g.mem.length ≤ 1048576) (gs : sumE g.ents ≤ 41943040) (hm : m.mem.length ≤ 1048576) (he : sumE m.ents ≤ 41943040) (hr : m.root.length ≤ 1048576) (ht : m.tree.size ≤ 1048576) (hx : 0 ≤ x ∧ x < 256) : ∃ outs, Ev tab G0 n_law14_EntryBack [avLog g, avMsg m, u8 x] [] = some ([bo true], outs) := by
  have h0 := up14_ev
  have hse := sumE_len g.ents
  have hse2 := sumE_len m.ents
  obtain ⟨r1, _, f1⟩ := few_ev g.ents (by omega)
  obtain ⟨r2, _, f2⟩ := few_ev m.ents (by omega)
  have f5 := ref04_Light_ev m.tree 300 200 (by omega) (by omega) ht
  rw [avM_tree] at f5
  have w1 := WriteLog_ev g gm gs
  have w2 := Write_ev m ⟨he, hm, hr, ht⟩
  refine ⟨[], Ev_run t_law14_EntryBack rfl rfl ?_⟩
  cases r1
  · simp (maxSteps := 1000000) (disch := first | omega | (simp only [lens, List.length_map]; omega)) only [go_sem, ↓reduceIte, Nat.reduceSub, Nat.reduceAdd, Nat.reduceMul, Nat.reduceLeDiff, Nat.reduceLT, Nat.reduceEqDiff, Nat.reduceBEq, Int.reduceLE, Int.reduceLT, Int.reduceEq, Int.reduceNeg, Int.reduceAdd, Int.reduceSub, Int.reduceMul, Int.reduceToNat, i_law14_EntryBack, h0, f1]
  · cases r2
    · simp (maxSteps := 1000000) (disch := first | omega | (simp only [lens, List.length_map]; omega)) only [go_sem, ↓reduceIte, Nat.reduceSub, Nat.reduceAdd, Nat.reduceMul, Nat.reduceLeDiff, Nat.reduceLT, Nat.reduceEqDiff, Nat.reduceBEq, Int.reduceLE, Int.reduceLT, Int.reduceEq, Int.reduceNeg, Int.reduceAdd, Int.reduceSub, Int.reduceMul, Int.reduceToNat, i_law14_EntryBack, h0, f1, f2]
    · by_cases c1 : 300 < g.mem.length
      · simp (maxSteps := 1000000) (disch := first | omega | (simp only [lens, List.length_map]; omega)) only [go_sem, ↓reduceIte, Nat.reduceSub, Nat.reduceAdd, Nat.reduceMul, Nat.reduceLeDiff, Nat.reduceLT, Nat.reduceEqDiff, Nat.reduceBEq, Int.reduceLE, Int.reduceLT, Int.reduceEq, Int.reduceNeg, Int.reduceAdd, Int.reduceSub, Int.reduceMul, Int.reduceToNat, i_law14_EntryBack, h0, f1, f2, c1]
      · by_cases c2 : 300 < m.mem.length
        · simp (maxSteps := 1000000) (disch := first | omega | (simp only [lens, List.length_map]; omega)) only [go_sem, ↓reduceIte, Nat.reduceSub, Nat.reduceAdd, Nat.reduceMul, Nat.reduceLeDiff, Nat.reduceLT, Nat.reduceEqDiff, Nat.reduceBEq, Int.reduceLE, Int.reduceLT, Int.reduceEq, Int.reduceNeg, Int.reduceAdd, Int.reduceSub, Int.reduceMul, Int.reduceToNat, i_law14_EntryBack, h0, f1, f2, c1, c2]
        · generalize m.tree.light 300 200 = lg at *
          by_cases hlg : lg < 0
          · simp (maxSteps := 1000000) (disch := first | omega | (simp only [lens, List.length_map]; omega)) only [go_sem, ↓reduceIte, Nat.reduceSub, Nat.reduceAdd, Nat.reduceMul, Nat.reduceLeDiff, Nat.reduceLT, Nat.reduceEqDiff, Nat.reduceBEq, Int.reduceLE, Int.reduceLT, Int.reduceEq, Int.reduceNeg, Int.reduceAdd, Int.reduceSub, Int.reduceMul, Int.reduceToNat, i_law14_EntryBack, h0, f1, f2, c1, c2, f5, hlg]
          · by_cases d0 : m.p.endC = 0
            · have b1 := msg_back d0 ht
              have b2 := read_less d0
              have b3 := read_more d0 ht (byt x)
              have b4 := (msg_good d0).2.2
              have b5 := Read_ev m.p.endB (by omega)
              have b6 := msg_len d0
              rw [b1.1, b1.2, errV, if_pos rfl] at b5
              have q2 : (m.p.endB == m.p.endB) = true := beq_self_eq_true _
              rw [d0, errV, if_pos rfl] at w2
              clear b1
              generalize m.p.endB = db at *
              by_cases g0 : g.p.endC = 0
              · have a1 := log_back g0
                have a4 := (endC_0 g0)
                have a5 := ReadLog_ev g.p.endB (by rw [a4.2.2]; omega)
                rw [a1.1, a1.2, errV, if_pos rfl] at a5
                rw [g0, errV, if_pos rfl] at w1
                have q1 : (g.p.endB == g.p.endB) = true := beq_self_eq_true _
                clear a1 a4
                generalize g.p.endB = eb at *
                by_cases hz : db.length = 1048576
                · rw [if_pos hz] at b3
                  have ez : True := trivial
                  rw [hz, show (1048576 : Nat) - 1 = 1048575 from rfl] at b2
                  simp (maxSteps := 1000000) (disch := first | omega | (simp only [lens, List.length_map]; omega)) only [go_sem, ↓reduceIte, Nat.reduceSub, Nat.reduceAdd, Nat.reduceMul, Nat.reduceLeDiff, Nat.reduceLT, Nat.reduceEqDiff, Nat.reduceBEq, Int.reduceLE, Int.reduceLT, Int.reduceEq, Int.reduceNeg, Int.reduceAdd, Int.reduceSub, Int.reduceMul, Int.reduceToNat, i_law14_EntryBack, h0, f1, f2, c1, c2, f5, hlg, w1, w2, a5, q1, q2, b2, b3, b5, b6, hz, ez]
                · rw [if_neg hz] at b3
                  have ez : ((db.length : Int) - 1).toNat = db.length - 1 := by omega
                  simp (maxSteps := 1000000) (disch := first | omega | (simp only [lens, List.length_map]; omega)) only [go_sem, ↓reduceIte, Nat.reduceSub, Nat.reduceAdd, Nat.reduceMul, Nat.reduceLeDiff, Nat.reduceLT, Nat.reduceEqDiff, Nat.reduceBEq, Int.reduceLE, Int.reduceLT, Int.reduceEq, Int.reduceNeg, Int.reduceAdd, Int.reduceSub, Int.reduceMul, Int.reduceToNat, i_law14_EntryBack, h0, f1, f2, c1, c2, f5, hlg, w1, w2, a5, q1, q2, b2, b3, b5, b6, hz, ez]
              · rw [errV, if_neg g0] at w1
                generalize g.p.endB = eb at *
                generalize g.p.endC = ec at *
                by_cases hz : db.length = 1048576
                · rw [if_pos hz] at b3
                  have ez : True := trivial
                  rw [hz, show (1048576 : Nat) - 1 = 1048575 from rfl] at b2
                  simp (maxSteps := 1000000) (disch := first | omega | (simp only [lens, List.length_map]; omega)) only [go_sem, ↓reduceIte, Nat.reduceSub, Nat.reduceAdd, Nat.reduceMul, Nat.reduceLeDiff, Nat.reduceLT, Nat.reduceEqDiff, Nat.reduceBEq, Int.reduceLE, Int.reduceLT, Int.reduceEq, Int.reduceNeg, Int.reduceAdd, Int.reduceSub, Int.reduceMul, Int.reduceToNat, i_law14_EntryBack, h0, f1, f2, c1, c2, f5, hlg, w1, w2, q2, b2, b3, b5, b6, hz, ez]
                · rw [if_neg hz] at b3
                  have ez : ((db.length : Int) - 1).toNat = db.length - 1 := by omega
                  simp (maxSteps := 1000000) (disch := first | omega | (simp only [lens, List.length_map]; omega)) only [go_sem, ↓reduceIte, Nat.reduceSub, Nat.reduceAdd, Nat.reduceMul, Nat.reduceLeDiff, Nat.reduceLT, Nat.reduceEqDiff, Nat.reduceBEq, Int.reduceLE, Int.reduceLT, Int.reduceEq, Int.reduceNeg, Int.reduceAdd, Int.reduceSub, Int.reduceMul, Int.reduceToNat, i_law14_EntryBack, h0, f1, f2, c1, c2, f5, hlg, w1, w2, q2, b2, b3, b5, b6, hz, ez]
            · rw [errV, if_neg d0] at w2
              generalize m.p.endB = db at *
              generalize m.p.endC = dc at *
              by_cases g0 : g.p.endC = 0
              · have a1 := log_back g0
                have a4 := (endC_0 g0)
                have a5 := ReadLog_ev g.p.endB (by rw [a4.2.2]; omega)
                rw [a1.1, a1.2, errV, if_pos rfl] at a5
                rw [g0, errV, if_pos rfl] at w1
                have q1 : (g.p.endB == g.p.endB) = true := beq_self_eq_true _
                clear a1 a4
                generalize g.p.endB = eb at *
                simp (maxSteps := 1000000) (disch := first | omega | (simp only [lens, List.length_map]; omega)) only [go_sem, ↓reduceIte, Nat.reduceSub, Nat.reduceAdd, Nat.reduceMul, Nat.reduceLeDiff, Nat.reduceLT, Nat.reduceEqDiff, Nat.reduceBEq, Int.reduceLE, Int.reduceLT, Int.reduceEq, Int.reduceNeg, Int.reduceAdd, Int.reduceSub, Int.reduceMul, Int.reduceToNat, i_law14_EntryBack, h0, f1, f2, c1, c2, f5, hlg, w1, w2, a5, q1]
              · rw [errV, if_neg g0] at w1
                generalize g.p.endB = eb at *
                generalize g.p.endC = ec at *
                simp (maxSteps := 1000000) (disch := first | omega | (simp only [lens, List.length_map]; omega)) only [go_sem, ↓reduceIte, Nat.reduceSub, Nat.reduceAdd, Nat.reduceMul, Nat.reduceLeDiff, Nat.reduceLT, Nat.reduceEqDiff, Nat.reduceBEq, Int.reduceLE, Int.reduceLT, Int.reduceEq, Int.reduceNeg, Int.reduceAdd, Int.reduceSub, Int.reduceMul, Int.reduceToNat, i_law14_EntryBack, h0, f1, f2, c1, c2, f5, hlg, w1, w2]

end Go.Proofs.Ytkfaahjcncpmhaa
