/-
  The document's examples; small trees, several.
-/
import Derived.Test.YtebiajdkgpcidaaDoorLJoin2
import Derived.KernelRfl
set_option linter.unusedSimpArgs false
set_option linter.unusedVariables false
set_option maxRecDepth 200000
set_option maxHeartbeats 4000000
namespace Go.Proofs.YtebiajdkgpcidaaDoor
open Go.Ev

theorem small11_ev (t : T) (hs : t.size ≤ 1048576) : Ev tab G0 n_law11_small [avT t] [] = some ([bo (decide (0 ≤ t.light 200 100))], []) := by
  have h1 := ref04_Light_ev t 200 100 (by omega) (by omega) hs
  refine Ev_run t_law11_small rfl rfl ?_
  simp (maxSteps := 1000000) (disch := first | omega | (simp only [List.length_cons, List.length_nil, List.length_append, List.length_map, List.length_take, List.length_drop]; omega)) only [go_sem, ↓reduceIte, Nat.reduceSub, Nat.reduceAdd, Nat.reduceMul, Nat.reduceLeDiff, Nat.reduceLT, Nat.reduceEqDiff, Nat.reduceBEq, Int.reduceLE, Int.reduceLT, Int.reduceEq, Int.reduceNeg, Int.reduceAdd, Int.reduceSub, Int.reduceMul, Int.reduceToNat, i_law11_small, h1]
/-- The document's example: a tree of one node. -/
def tA : T := .mk 1 [97] [] [] [.no, .no]
theorem tA_dig : ∃ d, tA.dig 1 = some d := by
  have := dig_1 (w := 1) (t := tA) (l := .no) (r := .no) (by decide) rfl rfl
  rw [dig_0 (t := .no) rfl] at this
  exact ⟨_, this⟩
theorem tA_cut : ∃ d : List UInt8, Ev tab G0 n_chunk_Cut [i64 1, avT tA, i64 0] [] = some ([avT (.mk 3 [] [] d []), .sl true (eT [tA]), .s .nilIface], []) ∧ d.length ≤ 32 := by
  obtain ⟨d, hd⟩ := tA_dig
  have hc : cutC 1 tA ((0 : Nat) : Int) = 0 := by
    unfold cutC
    have h1 : tA.chk = 0 := by kernel_rfl
    have h2 : tA.full = true := by kernel_rfl
    rw [hd, h1, h2]
    simp
  have h := chunk_Cut_good 1 tA 0 (by decide) hc
  rw [headT_0 (l := .no) (r := .no) rfl, partT_0 (l := .no) (r := .no) rfl, hd] at h
  have hl := dig_len 1 (by decide) tA (by kernel_rfl) d hd
  exact ⟨d, h, by omega⟩
theorem up11_ev : Ev tab G0 n_law11_up [] [] = some ([bo true], []) := by
  obtain ⟨d, hd⟩ := tA_dig
  obtain ⟨d, h2, hdl⟩ := tA_cut
  have h1 : Ev tab G0 n_ref05_Grown [.sl true [[.sl (eB [97]), .sl []]]] [] = some ([avT tA], []) := Ev_by 60 (by kernel_rfl)
  have h3 : Ev tab G0 n_chunk_Join [i64 1, avT (.mk 3 [] [] [] []), .sl true []] [] = some ([avT T.no, errA 3], []) := Ev_by 60 (by kernel_rfl)
  have h4 := Count_ev (.mk 3 [] [] d []) (by simp only [T.size, sizeL, List.length_nil]; omega)
  have hck : (T.mk 3 [] [] d []).chk = 0 := by
    refine chk_good ?_ (deep_nil rfl (.inr rfl))
    rw [formed_eq]
    simp only [T_kids, formedL, Bool.and_true, decide_eq_true_eq]
    exact .inr (.inr (.inr ⟨rfl, rfl, rfl, rfl⟩))
  have hcu : (T.mk 3 [] [] d []).cuts = [.mk 3 [] [] d []] := by rw [cuts_eq, if_pos (show (T.mk 3 [] [] d []).kind = 3 from rfl)]
  rw [if_pos hck, hcu] at h4
  have e1 : avT T.no = .agg [i64 0, .sl true [], .sl true [], .sl true [], .sl true []] := rfl
  have e2 : avT tA = .agg [i64 1, .sl true (eB [97]), .sl true [], .sl true [], .sl true (eT [.no, .no])] := rfl
  have e3 : byt 97 = 97 := rfl
  have e4 : ((([T.mk 3 [] [] d []] : List T).length : Nat) : Int) = 1 := rfl
  rw [e4] at h4
  simp only [avT_lf, eB_n0] at h2 h3 h4
  rw [e2] at h1 h2
  rw [e1] at h3
  refine Ev_run t_law11_up rfl rfl ?_
  simp (maxSteps := 1000000) (disch := first | omega | (simp only [List.length_cons, List.length_nil, List.length_append, List.length_map, List.length_take, List.length_drop]; omega)) only [go_sem, ↓reduceIte, Nat.reduceSub, Nat.reduceAdd, Nat.reduceMul, Nat.reduceLeDiff, Nat.reduceLT, Nat.reduceEqDiff, Nat.reduceBEq, Int.reduceLE, Int.reduceLT, Int.reduceEq, Int.reduceNeg, Int.reduceAdd, Int.reduceSub, Int.reduceMul, Int.reduceToNat, i_law11_up, h1, h2, h3, h4, e3, eT_one, List.length_cons, List.length_nil]

end Go.Proofs.YtebiajdkgpcidaaDoor
