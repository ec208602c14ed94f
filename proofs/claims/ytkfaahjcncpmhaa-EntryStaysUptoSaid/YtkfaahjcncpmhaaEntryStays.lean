/-
  What is handed in stays as it is; what was read stays, whatever becomes of the bytes: the law.
-/
import Derived.Test.YtkfaahjcncpmhaaLRdrSrow
import Derived.Test.YtkfaahjcncpmhaaLRdrSsl
import Derived.Test.YtkfaahjcncpmhaaLMsgKg
import Derived.Test.YtkfaahjcncpmhaaLMsgKb
import Derived.Test.YtkfaahjcncpmhaaLRdrF
import Derived.Test.YtkfaahjcncpmhaaLMsg2
import Derived.Test.YtkfaahjcncpmhaaLTree5
set_option linter.unusedSimpArgs false
set_option linter.unusedVariables false
set_option maxRecDepth 200000
set_option maxHeartbeats 4000000
namespace Go.Proofs.Ytkfaahjcncpmhaa
open Go.Ev

theorem own_loopE (m x : MG) (b : List (List C)) (e : AV) (he : e.refs = [] ∧ e.age true = e) (s : Bool) : ∀ (n i : Nat) (o : List UInt8), n + i = o.length → o.length ≤ 1048576 → L_law14_EntryStays_0 (s_law14_EntryStays_K0 (.sl true b) (.ptr 0 0) (bo true) (.row 1 o.length) (.ptr 2 0) e (bo s) (i64 i) [some (oMs m), some (rowB1 o), some (oMs x), none, none]) = some (.exit 0, s_law14_EntryStays_J0 (.sl true b) (.ptr 0 0) (bo true) (.ptr 2 0) e (bo s) [some (oMs m), none, some (oMs x), none, none])
  | 0, i, o, h, hb => by
    rw [L_law14_EntryStays_0_eq]
    simp (maxSteps := 1000000) (disch := first | omega | (simp only [lens, List.length_map]; omega)) only [go_sem, ↓reduceIte, Nat.reduceSub, Nat.reduceAdd, Nat.reduceMul, Nat.reduceLeDiff, Nat.reduceLT, Nat.reduceEqDiff, Nat.reduceBEq, Int.reduceLE, Int.reduceLT, Int.reduceEq, Int.reduceNeg, Int.reduceAdd, Int.reduceSub, Int.reduceMul, Int.reduceToNat, i_law14_EntryStays_b0, he.1, he.2]
  | n + 1, i, o, h, hb => by
    have ih := own_loopE m x b e he s n (i + 1) (o.set i (byt (((o.getD i 0).toNat : Int) + 1))) (by rw [List.length_set]; omega) (by rw [List.length_set]; omega)
    rw [List.length_set] at ih
    rw [L_law14_EntryStays_0_eq]
    generalize hd : o.getD i 0 = y at *
    have hy := y.toNat_lt
    generalize hq : o.set i (byt ((y.toNat : Int) + 1)) = q at *
    try simp (maxSteps := 1000000) (disch := first | omega | (simp only [lens, List.length_map]; omega)) only [go_sem, ↓reduceIte, Nat.reduceSub, Nat.reduceAdd, Nat.reduceMul, Nat.reduceLeDiff, Nat.reduceLT, Nat.reduceEqDiff, Nat.reduceBEq, Int.reduceLE, Int.reduceLT, Int.reduceEq, Int.reduceNeg, Int.reduceAdd, Int.reduceSub, Int.reduceMul, Int.reduceToNat, he.1, he.2] at ih
    simp (maxSteps := 1000000) (disch := first | omega | (simp only [lens, List.length_map]; omega)) only [go_sem, ↓reduceIte, Nat.reduceSub, Nat.reduceAdd, Nat.reduceMul, Nat.reduceLeDiff, Nat.reduceLT, Nat.reduceEqDiff, Nat.reduceBEq, Int.reduceLE, Int.reduceLT, Int.reduceEq, Int.reduceNeg, Int.reduceAdd, Int.reduceSub, Int.reduceMul, Int.reduceToNat, i_law14_EntryStays_b0, he.1, he.2, hd, hq, ih]
theorem w_loopE (m : MG) (e f : AV) (he : e.refs = [] ∧ e.age true = e) (hf : f.refs = [] ∧ f.age true = f) (s : Bool) (u v w : List (List C)) : ∀ (n i : Nat) (o : List UInt8), n + i = o.length → o.length ≤ 1048576 → L_law14_EntryStays_1 (s_law14_EntryStays_K1 (.ptr 0 0) (bo true) e (bo s) f (.sl true u) (.sl true v) (.sl true w) (.row 4 o.length) (i64 i) [some (oMs m), none, none, none, some (rowB1 o)]) = some (.exit 2, s_law14_EntryStays_J2 (.ptr 0 0) (bo true) e (bo s) f (.sl true u) (.sl true v) (.sl true w) [some (oMs m), none, none, none, none])
  | 0, i, o, h, hb => by
    rw [L_law14_EntryStays_1_eq]
    simp (maxSteps := 1000000) (disch := first | omega | (simp only [lens, List.length_map]; omega)) only [go_sem, ↓reduceIte, Nat.reduceSub, Nat.reduceAdd, Nat.reduceMul, Nat.reduceLeDiff, Nat.reduceLT, Nat.reduceEqDiff, Nat.reduceBEq, Int.reduceLE, Int.reduceLT, Int.reduceEq, Int.reduceNeg, Int.reduceAdd, Int.reduceSub, Int.reduceMul, Int.reduceToNat, i_law14_EntryStays_b1, he.1, he.2, hf.1, hf.2]
  | n + 1, i, o, h, hb => by
    have ih := w_loopE m e f he hf s u v w n (i + 1) (o.set i (byt (((o.getD i 0).toNat : Int) + 1))) (by rw [List.length_set]; omega) (by rw [List.length_set]; omega)
    rw [List.length_set] at ih
    rw [L_law14_EntryStays_1_eq]
    generalize hd : o.getD i 0 = y at *
    have hy := y.toNat_lt
    generalize hq : o.set i (byt ((y.toNat : Int) + 1)) = q at *
    try simp (maxSteps := 1000000) (disch := first | omega | (simp only [lens, List.length_map]; omega)) only [go_sem, ↓reduceIte, Nat.reduceSub, Nat.reduceAdd, Nat.reduceMul, Nat.reduceLeDiff, Nat.reduceLT, Nat.reduceEqDiff, Nat.reduceBEq, Int.reduceLE, Int.reduceLT, Int.reduceEq, Int.reduceNeg, Int.reduceAdd, Int.reduceSub, Int.reduceMul, Int.reduceToNat, he.1, he.2, hf.1, hf.2] at ih
    simp (maxSteps := 1000000) (disch := first | omega | (simp only [lens, List.length_map]; omega)) only [go_sem, ↓reduceIte, Nat.reduceSub, Nat.reduceAdd, Nat.reduceMul, Nat.reduceLeDiff, Nat.reduceLT, Nat.reduceEqDiff, Nat.reduceBEq, Int.reduceLE, Int.reduceLT, Int.reduceEq, Int.reduceNeg, Int.reduceAdd, Int.reduceSub, Int.reduceMul, Int.reduceToNat, i_law14_EntryStays_b1, he.1, he.2, hf.1, hf.2, hd, hq, ih]
theorem w_loopN (m : MG) (e f : AV) (he : e.refs = [] ∧ e.age true = e) (hf : f.refs = [] ∧ f.age true = f) (s : Bool) (u v w : List (List C)) : L_law14_EntryStays_1 (s_law14_EntryStays_K1 (.ptr 0 0) (bo true) e (bo s) f (.sl true u) (.sl true v) (.sl true w) .nilsl (i64 0) [some (oMs m), none, none, none, none]) = some (.exit 2, s_law14_EntryStays_J2 (.ptr 0 0) (bo true) e (bo s) f (.sl true u) (.sl true v) (.sl true w) [some (oMs m), none, none, none, none]) := by
  rw [L_law14_EntryStays_1_eq]
  simp (maxSteps := 1000000) (disch := first | omega | (simp only [lens, List.length_map]; omega)) only [go_sem, ↓reduceIte, Nat.reduceSub, Nat.reduceAdd, Nat.reduceMul, Nat.reduceLeDiff, Nat.reduceLT, Nat.reduceEqDiff, Nat.reduceBEq, Int.reduceLE, Int.reduceLT, Int.reduceEq, Int.reduceNeg, Int.reduceAdd, Int.reduceSub, Int.reduceMul, Int.reduceToNat, i_law14_EntryStays_b1, he.1, he.2, hf.1, hf.2]
theorem msC_cS (b : List UInt8) : msC b = 0 ∨ msC b = 2 ∨ msC b = 3 ∨ msC b = 4 := by
  unfold msC
  split
  · exact .inr (.inl rfl)
  · rcases (G13 b).2.fn_c with h | h | h <;> rw [h] <;> simp
theorem law_EntryStays (b : List UInt8) (m : MG) (hb : b.length ≤ 1048576) (he : sumE m.ents ≤ 41943040) (hm : m.mem.length ≤ 1048576) (hr : m.root.length ≤ 1048576) (ht : m.tree.size ≤ 1048576) : ∃ outs, Ev tab G0 n_law14_EntryStays [.sl true (eB b), avMsg m] [] = some ([bo true], outs) := by
  have h0 := up14_ev
  have hse2 := sumE_len m.ents
  obtain ⟨r2, _, f2⟩ := few_ev m.ents (by omega)
  have f5 := ref04_Light_ev m.tree 300 200 (by omega) (by omega) ht
  rw [avM_tree] at f5
  refine ⟨[], Ev_run t_law14_EntryStays rfl rfl ?_⟩
  by_cases hbl : 20000 < b.length
  · simp (maxSteps := 1000000) (disch := first | omega | (simp only [lens, List.length_map]; omega)) only [go_sem, ↓reduceIte, Nat.reduceSub, Nat.reduceAdd, Nat.reduceMul, Nat.reduceLeDiff, Nat.reduceLT, Nat.reduceEqDiff, Nat.reduceBEq, Int.reduceLE, Int.reduceLT, Int.reduceEq, Int.reduceNeg, Int.reduceAdd, Int.reduceSub, Int.reduceMul, Int.reduceToNat, i_law14_EntryStays, h0, hbl]
  · cases r2
    · simp (maxSteps := 1000000) (disch := first | omega | (simp only [lens, List.length_map]; omega)) only [go_sem, ↓reduceIte, Nat.reduceSub, Nat.reduceAdd, Nat.reduceMul, Nat.reduceLeDiff, Nat.reduceLT, Nat.reduceEqDiff, Nat.reduceBEq, Int.reduceLE, Int.reduceLT, Int.reduceEq, Int.reduceNeg, Int.reduceAdd, Int.reduceSub, Int.reduceMul, Int.reduceToNat, i_law14_EntryStays, h0, hbl, f2]
    · by_cases c2 : 300 < m.mem.length
      · simp (maxSteps := 1000000) (disch := first | omega | (simp only [lens, List.length_map]; omega)) only [go_sem, ↓reduceIte, Nat.reduceSub, Nat.reduceAdd, Nat.reduceMul, Nat.reduceLeDiff, Nat.reduceLT, Nat.reduceEqDiff, Nat.reduceBEq, Int.reduceLE, Int.reduceLT, Int.reduceEq, Int.reduceNeg, Int.reduceAdd, Int.reduceSub, Int.reduceMul, Int.reduceToNat, i_law14_EntryStays, h0, hbl, f2, c2]
      · generalize m.tree.light 300 200 = lg at *
        by_cases hlg : lg < 0
        · simp (maxSteps := 1000000) (disch := first | omega | (simp only [lens, List.length_map]; omega)) only [go_sem, ↓reduceIte, Nat.reduceSub, Nat.reduceAdd, Nat.reduceMul, Nat.reduceLeDiff, Nat.reduceLT, Nat.reduceEqDiff, Nat.reduceBEq, Int.reduceLE, Int.reduceLT, Int.reduceEq, Int.reduceNeg, Int.reduceAdd, Int.reduceSub, Int.reduceMul, Int.reduceToNat, i_law14_EntryStays, h0, hbl, f2, c2, f5, hlg]
        · have h1 := Read_row b (by omega)
          have h2 := Read_sl b (by omega)
          have c := msC_cS b
          have h3 := law00_Code_ev (msC b) (by omega)
          have f3 := msg_fits b (by omega)
          have g0 := fun (e : AV) (he : e.refs = [] ∧ e.age true = e) => own_loopE m (msV b) (eB b) e he true b.length 0 b (by omega) (by omega)
          have e0 : ((0 : Nat) : Int) = 0 := rfl
          simp only [e0] at g0
          have hk := errV_refs (msC b)
          have hk2 := errV_age (msC b)
          have g1 := g0 (errV (msC b)) ⟨hk, hk2⟩
          clear g0 c
          generalize hxx : msV b = x at *
          clear hxx
          generalize msC b = d at *
          have h4 := rWrite_ev x f3
          have h5 := rWrite_ev m ⟨he, hm, hr, ht⟩
          have q0 : (b == b) = true := beq_self_eq_true _
          have q1 : (x.p.endB == x.p.endB) = true := beq_self_eq_true _
          have q2 : (m.p.endB == m.p.endB) = true := beq_self_eq_true _
          obtain ⟨v, hv, r1⟩ : ∃ v, errV d = .s v ∧ AV.canon (.s v) = .s v := by
            unfold errV
            split
            · exact ⟨_, rfl, rfl⟩
            · exact ⟨_, rfl, rfl⟩
          rw [hv] at h1 h2 h3 g1
          by_cases hc : m.p.endC = 0
          · have h6 := Write_kg m ⟨he, hm, hr, ht⟩ hc
            have hl := (endC_0k hc).2.1
            have g2 := fun (u z w : List (List C)) => w_loopE m (.s v) (.s v) ⟨rfl, rfl⟩ ⟨rfl, rfl⟩ true u z w m.p.b.length 0 m.p.b (by omega) (by omega)
            simp only [e0] at g2
            generalize m.p.endB = wb at *
            generalize m.p.endC = wc at *
            generalize m.p.b = wo at *
            generalize x.p.endB = xb at *
            generalize x.p.endC = xc at *
            simp (maxSteps := 1000000) (disch := first | omega | (simp only [lens, List.length_map]; omega)) only [go_sem, ↓reduceIte, Nat.reduceSub, Nat.reduceAdd, Nat.reduceMul, Nat.reduceLeDiff, Nat.reduceLT, Nat.reduceEqDiff, Nat.reduceBEq, Int.reduceLE, Int.reduceLT, Int.reduceEq, Int.reduceNeg, Int.reduceAdd, Int.reduceSub, Int.reduceMul, Int.reduceToNat, i_law14_EntryStays, h0, hbl, f2, c2, f5, hlg, h1, h2, h3, h4, h5, h6, g1, g2, q0, q1, q2, r1]
          · have h6 := Write_kb m ⟨he, hm, hr, ht⟩ hc
            have g2 := fun (u z w : List (List C)) => w_loopN m (.s v) (.s v) ⟨rfl, rfl⟩ ⟨rfl, rfl⟩ true u z w
            generalize m.p.endB = wb at *
            generalize m.p.endC = wc at *
            generalize x.p.endB = xb at *
            generalize x.p.endC = xc at *
            simp (maxSteps := 1000000) (disch := first | omega | (simp only [lens, List.length_map]; omega)) only [go_sem, ↓reduceIte, Nat.reduceSub, Nat.reduceAdd, Nat.reduceMul, Nat.reduceLeDiff, Nat.reduceLT, Nat.reduceEqDiff, Nat.reduceBEq, Int.reduceLE, Int.reduceLT, Int.reduceEq, Int.reduceNeg, Int.reduceAdd, Int.reduceSub, Int.reduceMul, Int.reduceToNat, i_law14_EntryStays, h0, hbl, f2, c2, f5, hlg, h1, h2, h3, h4, h5, h6, g1, g2, q0, q1, q2, r1]

end Go.Proofs.Ytkfaahjcncpmhaa
