/-
  Does a part fit? The document's; the document's examples.
-/
import Derived.Test.YtdngljdbgepaiaaGreatDoorLChunk3
import Derived.KernelRfl
set_option linter.unusedSimpArgs false
set_option linter.unusedVariables false
set_option maxRecDepth 200000
set_option maxHeartbeats 4000000
namespace Go.Proofs.YtdngljdbgepaiaaGreatDoor
open Go.Ev

theorem digs_getD (l : List T) (i : Nat) : (digs l).getD i [] = (l.getD i .no).digest := by
  unfold digs
  simp only [List.getD_eq_getElem?_getD, List.getElem?_map]
  cases l[i]? <;> rfl
theorem full_nil {t : T} (hf : t.formed = true) (hfl : t.full = true) : t.kids = [] ↔ t.kind = 0 := by
  constructor
  · intro h
    rw [full_eq] at hfl
    split at hfl
    · cases hfl
    · rcases kind_nil hf h with hk | hk <;> omega
  · intro h
    have ho := okT_of hf
    unfold okT at ho
    exact List.length_eq_zero_iff.1 (by omega)
theorem rFits_ev (w : Int) (h : T) (i : Int) (p : T) (hw : -9223372036854775808 ≤ w ∧ w < 9223372036854775808) (hi : -9223372036854775808 ≤ i ∧ i < 9223372036854775808) (hh : h.size ≤ 1048576) (hp : p.size ≤ 1048576) : Ev tab G0 n_ref11_Fits [avTb tabK V1, i64 w, avT h, i64 i, avT p] [] = some ([i64 (fitC w h i p)], []) := by
  have h2 := ref04_Check_ev h hh
  have h3 := ref04_Check_ev p hp
  have h4 := rCuts_ev h hh
  have h5 := ref04_Full_ev p hp
  have hcs := cuts_size h
  unfold fitC
  refine Ev_run t_ref11_Fits rfl rfl ?_
  by_cases hg : 1 ≤ w ∧ w ≤ 32
  · rw [if_neg (fun x => x hg)]
    by_cases hc : h.chk = 0
    · rw [if_neg (fun x => x hc)]
      rw [hc] at h2
      by_cases hc2 : p.chk = 0
      · rw [if_neg (fun x => x hc2)]
        rw [hc2] at h3
        have hf := chk_formed hc2
        have h6 := rdig_ev w hg p hf hp
        cases hd : p.dig w with
        | none =>
          rw [hd] at h6
          simp only [Option.isSome] at h6
          generalize rgV w p = z at *
          rw [if_pos (.inl rfl)]
          try simp (maxSteps := 1000000) (disch := first | omega | (simp only [lens, List.length_map]; omega)) only [go_sem, ↓reduceIte, Nat.reduceSub, Nat.reduceAdd, Nat.reduceMul, Nat.reduceLeDiff, Nat.reduceLT, Nat.reduceEqDiff, Nat.reduceBEq, Int.reduceLE, Int.reduceLT, Int.reduceEq, Int.reduceNeg, Int.reduceAdd, Int.reduceSub, Int.reduceMul, Int.reduceToNat] at h6
          cases hfl : p.full
          · rw [hfl] at h5
            simp (maxSteps := 1000000) (disch := first | omega | (simp only [lens, List.length_map]; omega)) only [go_sem, ↓reduceIte, Nat.reduceSub, Nat.reduceAdd, Nat.reduceMul, Nat.reduceLeDiff, Nat.reduceLT, Nat.reduceEqDiff, Nat.reduceBEq, Int.reduceLE, Int.reduceLT, Int.reduceEq, Int.reduceNeg, Int.reduceAdd, Int.reduceSub, Int.reduceMul, Int.reduceToNat, i_ref11_Fits, h2, h3, h4, h5, h6]
          · rw [hfl] at h5
            simp (maxSteps := 1000000) (disch := first | omega | (simp only [lens, List.length_map]; omega)) only [go_sem, ↓reduceIte, Nat.reduceSub, Nat.reduceAdd, Nat.reduceMul, Nat.reduceLeDiff, Nat.reduceLT, Nat.reduceEqDiff, Nat.reduceBEq, Int.reduceLE, Int.reduceLT, Int.reduceEq, Int.reduceNeg, Int.reduceAdd, Int.reduceSub, Int.reduceMul, Int.reduceToNat, i_ref11_Fits, h2, h3, h4, h5, h6]
        | some d =>
          rw [rgV_some hd, hd] at h6
          simp only [Option.isSome] at h6
          rw [show dgV (some d) = d from rfl]
          try simp (maxSteps := 1000000) (disch := first | omega | (simp only [lens, List.length_map]; omega)) only [go_sem, ↓reduceIte, Nat.reduceSub, Nat.reduceAdd, Nat.reduceMul, Nat.reduceLeDiff, Nat.reduceLT, Nat.reduceEqDiff, Nat.reduceBEq, Int.reduceLE, Int.reduceLT, Int.reduceEq, Int.reduceNeg, Int.reduceAdd, Int.reduceSub, Int.reduceMul, Int.reduceToNat] at h6
          cases hfl : p.full
          · rw [hfl] at h5
            rw [if_pos (.inr (.inl rfl))]
            simp (maxSteps := 1000000) (disch := first | omega | (simp only [lens, List.length_map]; omega)) only [go_sem, ↓reduceIte, Nat.reduceSub, Nat.reduceAdd, Nat.reduceMul, Nat.reduceLeDiff, Nat.reduceLT, Nat.reduceEqDiff, Nat.reduceBEq, Int.reduceLE, Int.reduceLT, Int.reduceEq, Int.reduceNeg, Int.reduceAdd, Int.reduceSub, Int.reduceMul, Int.reduceToNat, i_ref11_Fits, h2, h3, h4, h5, h6]
          · rw [hfl] at h5
            have hfn := full_nil hf hfl
            by_cases hk0 : p.kind = 0
            · rw [if_pos (.inr (.inr (hfn.2 hk0)))]
              have ea : avT p = .agg [i64 0, .sl true (eB p.key), .sl true (eB p.value), .sl true (eB p.digest), .sl true (eT p.kids)] := by rw [← hk0]
              rw [ea] at h3 h5 h6
              rw [ea]
              simp (maxSteps := 1000000) (disch := first | omega | (simp only [lens, List.length_map]; omega)) only [go_sem, ↓reduceIte, Nat.reduceSub, Nat.reduceAdd, Nat.reduceMul, Nat.reduceLeDiff, Nat.reduceLT, Nat.reduceEqDiff, Nat.reduceBEq, Int.reduceLE, Int.reduceLT, Int.reduceEq, Int.reduceNeg, Int.reduceAdd, Int.reduceSub, Int.reduceMul, Int.reduceToNat, i_ref11_Fits, h2, h3, h4, h5, h6, hk0]
            · have hne : ¬ ((some d).isSome = false ∨ true = false ∨ p.kids = []) := by
                rw [hfn]
                simp [hk0]
              rw [if_neg hne]
              have hdl := digs_len h.cuts
              by_cases i0 : i < 0
              · rw [if_pos (.inl i0)]
                simp (maxSteps := 1000000) (disch := first | omega | (simp only [lens, List.length_map]; omega)) only [go_sem, ↓reduceIte, Nat.reduceSub, Nat.reduceAdd, Nat.reduceMul, Nat.reduceLeDiff, Nat.reduceLT, Nat.reduceEqDiff, Nat.reduceBEq, Int.reduceLE, Int.reduceLT, Int.reduceEq, Int.reduceNeg, Int.reduceAdd, Int.reduceSub, Int.reduceMul, Int.reduceToNat, i_ref11_Fits, h2, h3, h4, h5, h6, hk0, hdl]
              · by_cases i1 : h.cuts.length ≤ i
                · rw [if_pos (.inr i1)]
                  simp (maxSteps := 1000000) (disch := first | omega | (simp only [lens, List.length_map]; omega)) only [go_sem, ↓reduceIte, Nat.reduceSub, Nat.reduceAdd, Nat.reduceMul, Nat.reduceLeDiff, Nat.reduceLT, Nat.reduceEqDiff, Nat.reduceBEq, Int.reduceLE, Int.reduceLT, Int.reduceEq, Int.reduceNeg, Int.reduceAdd, Int.reduceSub, Int.reduceMul, Int.reduceToNat, i_ref11_Fits, h2, h3, h4, h5, h6, hk0, hdl]
                · rw [if_neg (by omega)]
                  have hq : (digs h.cuts).getD i.toNat [] = (h.cuts.getD i.toNat .no).digest := digs_getD _ _
                  generalize h.cuts.getD i.toNat .no = q at *
                  have hb2 : (i.toNat) < (digs h.cuts).length := by rw [hdl]; omega
                  by_cases hb : (q.digest == d) = true
                  · rw [if_pos hb]
                    simp (maxSteps := 1000000) (disch := first | omega | (simp only [lens, List.length_map]; omega)) only [go_sem, ↓reduceIte, Nat.reduceSub, Nat.reduceAdd, Nat.reduceMul, Nat.reduceLeDiff, Nat.reduceLT, Nat.reduceEqDiff, Nat.reduceBEq, Int.reduceLE, Int.reduceLT, Int.reduceEq, Int.reduceNeg, Int.reduceAdd, Int.reduceSub, Int.reduceMul, Int.reduceToNat, i_ref11_Fits, h2, h3, h4, h5, h6, hk0, hdl, hq, hb]
                  · have hb3 : (q.digest == d) = false := eq_false_of_ne_true hb
                    rw [if_neg hb]
                    simp (maxSteps := 1000000) (disch := first | omega | (simp only [lens, List.length_map]; omega)) only [go_sem, ↓reduceIte, Nat.reduceSub, Nat.reduceAdd, Nat.reduceMul, Nat.reduceLeDiff, Nat.reduceLT, Nat.reduceEqDiff, Nat.reduceBEq, Int.reduceLE, Int.reduceLT, Int.reduceEq, Int.reduceNeg, Int.reduceAdd, Int.reduceSub, Int.reduceMul, Int.reduceToNat, i_ref11_Fits, h2, h3, h4, h5, h6, hk0, hdl, hq, hb3]
      · rw [if_pos hc2]
        generalize p.chk = c2 at *
        simp (maxSteps := 1000000) (disch := first | omega | (simp only [lens, List.length_map]; omega)) only [go_sem, ↓reduceIte, Nat.reduceSub, Nat.reduceAdd, Nat.reduceMul, Nat.reduceLeDiff, Nat.reduceLT, Nat.reduceEqDiff, Nat.reduceBEq, Int.reduceLE, Int.reduceLT, Int.reduceEq, Int.reduceNeg, Int.reduceAdd, Int.reduceSub, Int.reduceMul, Int.reduceToNat, i_ref11_Fits, h2, h3, hc2]
    · rw [if_pos hc]
      generalize h.chk = c at *
      simp (maxSteps := 1000000) (disch := first | omega | (simp only [lens, List.length_map]; omega)) only [go_sem, ↓reduceIte, Nat.reduceSub, Nat.reduceAdd, Nat.reduceMul, Nat.reduceLeDiff, Nat.reduceLT, Nat.reduceEqDiff, Nat.reduceBEq, Int.reduceLE, Int.reduceLT, Int.reduceEq, Int.reduceNeg, Int.reduceAdd, Int.reduceSub, Int.reduceMul, Int.reduceToNat, i_ref11_Fits, h2, hc]
  · rw [if_pos hg]
    by_cases h1w : w < 1
    · simp (maxSteps := 1000000) (disch := first | omega | (simp only [lens, List.length_map]; omega)) only [go_sem, ↓reduceIte, Nat.reduceSub, Nat.reduceAdd, Nat.reduceMul, Nat.reduceLeDiff, Nat.reduceLT, Nat.reduceEqDiff, Nat.reduceBEq, Int.reduceLE, Int.reduceLT, Int.reduceEq, Int.reduceNeg, Int.reduceAdd, Int.reduceSub, Int.reduceMul, Int.reduceToNat, i_ref11_Fits]
    · simp (maxSteps := 1000000) (disch := first | omega | (simp only [lens, List.length_map]; omega)) only [go_sem, ↓reduceIte, Nat.reduceSub, Nat.reduceAdd, Nat.reduceMul, Nat.reduceLeDiff, Nat.reduceLT, Nat.reduceEqDiff, Nat.reduceBEq, Int.reduceLE, Int.reduceLT, Int.reduceEq, Int.reduceNeg, Int.reduceAdd, Int.reduceSub, Int.reduceMul, Int.reduceToNat, i_ref11_Fits]
theorem small11_ev (t : T) (hs : t.size ≤ 1048576) : Ev tab G0 n_law11_small [avT t] [] = some ([bo (decide (0 ≤ t.light 200 100))], []) := by
  have h1 := ref04_Light_ev t 200 100 (by omega) (by omega) hs
  refine Ev_run t_law11_small rfl rfl ?_
  simp (maxSteps := 1000000) (disch := first | omega | (simp only [lens, List.length_map]; omega)) only [go_sem, ↓reduceIte, Nat.reduceSub, Nat.reduceAdd, Nat.reduceMul, Nat.reduceLeDiff, Nat.reduceLT, Nat.reduceEqDiff, Nat.reduceBEq, Int.reduceLE, Int.reduceLT, Int.reduceEq, Int.reduceNeg, Int.reduceAdd, Int.reduceSub, Int.reduceMul, Int.reduceToNat, i_law11_small, h1]
/-- The document's example: a tree of one node. -/
def tA : T := .mk 1 [97] [] [] [.no, .no]
theorem tA_dig : ∃ d, tA.dig 1 = some d := by
  have := dig_1 (w := 1) (t := tA) (l := .no) (r := .no) (by decide) rfl rfl
  rw [dig_0 (t := .no) rfl] at this
  exact ⟨_, this⟩
theorem tA_cut : ∃ d : List UInt8, Ev tab G0 n_chunk_Cut [i64 1, avT tA, i64 0] [] = some ([avT (.mk 3 [] [] d []), .sl true (eT [tA]), .s .nilIface], []) ∧ d.length ≤ 32 := by
  obtain ⟨d, hd⟩ := tA_dig
  have hc : cutC 1 tA ((0 : Nat) : Int) = 0 := by
    unfold cutC
    have h1 : tA.chk = 0 := by kernel_rfl
    have h2 : tA.full = true := by kernel_rfl
    rw [hd, h1, h2]
    simp
  have h := chunk_Cut_good 1 tA 0 (by decide) hc
  rw [headT_0 (l := .no) (r := .no) rfl, partT_0 (l := .no) (r := .no) rfl, hd] at h
  have hl := dig_len 1 (by decide) tA (by kernel_rfl) d hd
  exact ⟨d, h, by omega⟩
theorem up11_ev : Ev tab G0 n_law11_up [] [] = some ([bo true], []) := by
  obtain ⟨d, hd⟩ := tA_dig
  obtain ⟨d, h2, hdl⟩ := tA_cut
  have h1 : Ev tab G0 n_ref05_Grown [.sl true [[.sl (eB [97]), .sl []]]] [] = some ([avT tA], []) := Ev_by 60 (by kernel_rfl)
  have h3 : Ev tab G0 n_chunk_Join [i64 1, avT (.mk 3 [] [] [] []), .sl true []] [] = some ([avT T.no, errA 3], []) := Ev_by 60 (by kernel_rfl)
  have h4 := Count_ev (.mk 3 [] [] d []) (by simp only [T.size, sizeL, List.length_nil]; omega)
  have hck : (T.mk 3 [] [] d []).chk = 0 := by
    refine chk_good ?_ (deep_nil rfl (.inr rfl))
    rw [formed_eq]
    simp only [T_kids, formedL, Bool.and_true, decide_eq_true_eq]
    exact .inr (.inr (.inr ⟨rfl, rfl, rfl, rfl⟩))
  have hcu : (T.mk 3 [] [] d []).cuts = [.mk 3 [] [] d []] := by rw [cuts_eq, if_pos (show (T.mk 3 [] [] d []).kind = 3 from rfl)]
  rw [if_pos hck, hcu] at h4
  have e1 : avT T.no = .agg [i64 0, .sl true [], .sl true [], .sl true [], .sl true []] := rfl
  have e2 : avT tA = .agg [i64 1, .sl true (eB [97]), .sl true [], .sl true [], .sl true (eT [.no, .no])] := rfl
  have e3 : byt 97 = 97 := rfl
  have e4 : ((([T.mk 3 [] [] d []] : List T).length : Nat) : Int) = 1 := rfl
  rw [e4] at h4
  simp only [avT_lf, eB_n0] at h2 h3 h4
  rw [e2] at h1 h2
  rw [e1] at h3
  refine Ev_run t_law11_up rfl rfl ?_
  simp (maxSteps := 1000000) (disch := first | omega | (simp only [lens, List.length_map]; omega)) only [go_sem, ↓reduceIte, Nat.reduceSub, Nat.reduceAdd, Nat.reduceMul, Nat.reduceLeDiff, Nat.reduceLT, Nat.reduceEqDiff, Nat.reduceBEq, Int.reduceLE, Int.reduceLT, Int.reduceEq, Int.reduceNeg, Int.reduceAdd, Int.reduceSub, Int.reduceMul, Int.reduceToNat, i_law11_up, h1, h2, h3, h4, e3, eT_one, List.length_cons, List.length_nil]
end Go.Proofs.YtdngljdbgepaiaaGreatDoor
