/-
  A tree's digest, where what is answered stays a row.
-/
import Derived.Test.YtebiajdkgpcidaaDoorLTold
import Derived.Test.YtebiajdkgpcidaaDoorLCopy5
import Derived.KernelRfl
set_option linter.unusedSimpArgs false
set_option linter.unusedVariables false
set_option maxRecDepth 200000
set_option maxHeartbeats 4000000
namespace Go.Proofs.YtebiajdkgpcidaaDoor
open Go.Ev

theorem cloneK (l : List UInt8) (hne : l ≠ []) (h : l.length ≤ 1073741824) : Ev tab G0 n_slices_Clone_sl_byte_byte [.sl true (eB l)] [] = some ([.row 0 l.length], [.row ty_uint8 1 true false (eB l)]) := by
  cases l with
  | nil => exact absurd rfl hne
  | cons b l =>
    simp only [List.length_cons] at h ⊢
    rw [show eB (b :: l) = e1 b :: eB l from rfl]
    refine Ev_notnil t_slices_Clone_sl_byte_byte rfl rfl (evFn1_run rfl ?_)
    simp (maxSteps := 1000000) (disch := first | omega | (simp only [List.length_cons, List.length_nil, List.length_append, List.length_map, List.length_take, List.length_drop]; omega)) only [go_sem, ↓reduceIte, Nat.reduceSub, Nat.reduceAdd, Nat.reduceMul, Nat.reduceLeDiff, Nat.reduceLT, Nat.reduceEqDiff, Nat.reduceBEq, Int.reduceLE, Int.reduceLT, Int.reduceEq, Int.reduceNeg, Int.reduceAdd, Int.reduceSub, Int.reduceMul, Int.reduceToNat, i_slices_Clone_sl_byte_byte]
theorem Of_goodK (w : Int) (b : List UInt8) (h : 1 ≤ w ∧ w ≤ 32) (hb : b.length ≤ 1048576) : Ev tab G0 n_digest_Of [i64 w, .sl true (eB b)] [] = some ([.row 0 (dg w b).length, .s .nilIface], [.row ty_uint8 1 true false (eB (dg w b))]) := by
  have h1 := width_ev w (by omega)
  rw [decide_eq_true h] at h1
  have h2 := sha_Sum_ev b hb
  have hl := dg_len w b (by omega)
  have h3 := cloneK (dg w b) (fun e => by rw [e] at hl; simp at hl; omega) (by omega)
  have hs := shaS_len b
  rw [dg] at *
  generalize shaS b = s at *
  refine Ev_run t_digest_Of rfl rfl ?_
  simp (maxSteps := 1000000) (disch := first | omega | (simp only [List.length_cons, List.length_nil, List.length_append, List.length_map, List.length_take, List.length_drop]; omega)) only [go_sem, ↓reduceIte, Nat.reduceSub, Nat.reduceAdd, Nat.reduceMul, Nat.reduceLeDiff, Nat.reduceLT, Nat.reduceEqDiff, Nat.reduceBEq, Int.reduceLE, Int.reduceLT, Int.reduceEq, Int.reduceNeg, Int.reduceAdd, Int.reduceSub, Int.reduceMul, Int.reduceToNat, i_digest_Of, h1, h2, h3, hs]
theorem of_goodK (w : Int) (b : List UInt8) (h : 1 ≤ w ∧ w ≤ 32) (hb : b.length ≤ 1048576) : Ev tab G0 n_tree_of [i64 w, .sl true (eB b), .s .nilIface] [] = some ([.row 0 (dg w b).length, .s .nilIface], [.row ty_uint8 1 true false (eB (dg w b))]) := by
  have h1 := Of_goodK w b h hb
  generalize dg w b = d at *
  refine Ev_run t_tree_of rfl rfl ?_
  simp (maxSteps := 1000000) (disch := first | omega | (simp only [List.length_cons, List.length_nil, List.length_append, List.length_map, List.length_take, List.length_drop]; omega)) only [go_sem, ↓reduceIte, Nat.reduceSub, Nat.reduceAdd, Nat.reduceMul, Nat.reduceLeDiff, Nat.reduceLT, Nat.reduceEqDiff, Nat.reduceBEq, Int.reduceLE, Int.reduceLT, Int.reduceEq, Int.reduceNeg, Int.reduceAdd, Int.reduceSub, Int.reduceMul, Int.reduceToNat, i_tree_of, h1]
theorem of_badK (w : Int) (b : List UInt8) (h : 1 ≤ w ∧ w ≤ 32) (c : Int) (hb : b.length ≤ 1048576) : Ev tab G0 n_tree_of [i64 w, .sl true (eB b), errA c] [] = some ([.nilsl, errA 3], [.dead]) := by
  refine Ev_run t_tree_of rfl rfl ?_
  simp (maxSteps := 1000000) (disch := first | omega | (simp only [List.length_cons, List.length_nil, List.length_append, List.length_map, List.length_take, List.length_drop]; omega)) only [go_sem, ↓reduceIte, Nat.reduceSub, Nat.reduceAdd, Nat.reduceMul, Nat.reduceLeDiff, Nat.reduceLT, Nat.reduceEqDiff, Nat.reduceBEq, Int.reduceLE, Int.reduceLT, Int.reduceEq, Int.reduceNeg, Int.reduceAdd, Int.reduceSub, Int.reduceMul, Int.reduceToNat, i_tree_of]
def kA : Option (List UInt8) → AV
  | some d => .row 0 d.length
  | none => .nilsl
def kO : Option (List UInt8) → Ev.Obj
  | some d => .row ty_uint8 1 true false (eB d)
  | none => .dead
theorem told_evK (w : Int) (hw : 1 ≤ w ∧ w ≤ 32) : ∀ t : T, t.formed = true → t.size ≤ 1048576 → Ev tab G0 n_tree_told [i64 w, avT t] [] = some ([kA (t.dig w), dgE (t.dig w)], [kO (t.dig w)]) := F_ind
  (fun t hf h hb => by
    have hz := size_eq t
    have ho := okT_of hf
    unfold okT at ho
    rw [h] at ho
    simp only [List.length_nil] at ho
    have hk : t.kind = 0 ∨ t.kind = 3 := by omega
    rcases hk with hk | hk
    · have h1 := None_ev
      have h2 := Of_goodK w [3] hw (by simp)
      rw [dig_0 hk]
      simp only [kA, kO, dgE]
      refine Ev_run t_tree_told rfl rfl ?_
      simp (maxSteps := 1000000) (disch := first | omega | (simp only [List.length_cons, List.length_nil, List.length_append, List.length_map, List.length_take, List.length_drop]; omega)) only [go_sem, ↓reduceIte, Nat.reduceSub, Nat.reduceAdd, Nat.reduceMul, Nat.reduceLeDiff, Nat.reduceLT, Nat.reduceEqDiff, Nat.reduceBEq, Int.reduceLE, Int.reduceLT, Int.reduceEq, Int.reduceNeg, Int.reduceAdd, Int.reduceSub, Int.reduceMul, Int.reduceToNat, i_tree_told, hk, h1, h2]
    · rw [dig_3 hk]
      by_cases hc : (t.digest.length : Int) = w
      · have h1 := cloneK t.digest (fun e => by rw [e] at hc; simp at hc; omega) (by omega)
        refine Ev_run t_tree_told rfl rfl ?_
        rw [if_pos hc]
        simp only [kA, kO, dgE]
        simp (maxSteps := 1000000) (disch := first | omega | (simp only [List.length_cons, List.length_nil, List.length_append, List.length_map, List.length_take, List.length_drop]; omega)) only [go_sem, ↓reduceIte, Nat.reduceSub, Nat.reduceAdd, Nat.reduceMul, Nat.reduceLeDiff, Nat.reduceLT, Nat.reduceEqDiff, Nat.reduceBEq, Int.reduceLE, Int.reduceLT, Int.reduceEq, Int.reduceNeg, Int.reduceAdd, Int.reduceSub, Int.reduceMul, Int.reduceToNat, i_tree_told, hk, h1]
      · refine Ev_run t_tree_told rfl rfl ?_
        rw [if_neg hc]
        simp only [kA, kO, dgE]
        simp (maxSteps := 1000000) (disch := first | omega | (simp only [List.length_cons, List.length_nil, List.length_append, List.length_map, List.length_take, List.length_drop]; omega)) only [go_sem, ↓reduceIte, Nat.reduceSub, Nat.reduceAdd, Nat.reduceMul, Nat.reduceLeDiff, Nat.reduceLT, Nat.reduceEqDiff, Nat.reduceBEq, Int.reduceLE, Int.reduceLT, Int.reduceEq, Int.reduceNeg, Int.reduceAdd, Int.reduceSub, Int.reduceMul, Int.reduceToNat, i_tree_told, hk])
  fun t l r hf h hl hr ih1 ih2 hb => by
    have hz := size_two h
    have h1 := ih1 (by omega)
    have h2 := ih2 (by omega)
    have ho := okT_of hf
    unfold okT at ho
    rw [h] at ho
    simp only [List.length_cons, List.length_nil] at ho
    have hk : t.kind = 1 ∨ t.kind = 2 := by omega
    have hd : ∀ b, ((dg w b).length : Int) = w := fun b => by rw [dg_len _ _ (by omega)]; omega
    rcases hk with hk | hk
    · rw [dig_1 hw hk h]
      have h3 := Value_ev t.value (by omega)
      have h4 := Of_goodK w (0 :: t.value) hw (by simp only [List.length_cons]; omega)
      have h5 := Pair_good w t.key (dg w (0 :: t.value)) ⟨hw.1, hw.2, hd _⟩ (by omega)
      have hpl : (pairP t.key (dg w (0 :: t.value))).length ≤ 1048576 := by
        have := hd (0 :: t.value)
        have := byts_len t.key
        simp only [pairP, List.length_cons, List.length_append]
        omega
      have h6 := of_goodK w (pairP t.key (dg w (0 :: t.value))) hw hpl
      have hl1 := hd (0 :: t.value)
      have hl2 := hd (pairP t.key (dg w (0 :: t.value)))
      generalize dg w (0 :: t.value) = v at *
      generalize pairP t.key v = pk at *
      generalize dg w pk = p at *
      cases e1 : l.dig w with
      | none =>
        rw [e1] at h1
        simp only [kA, kO, dgE] at h1 ⊢
        refine Ev_run t_tree_told rfl rfl ?_
        simp (maxSteps := 1000000) (disch := first | omega | (simp only [List.length_cons, List.length_nil, List.length_append, List.length_map, List.length_take, List.length_drop]; omega)) only [go_sem, ↓reduceIte, Nat.reduceSub, Nat.reduceAdd, Nat.reduceMul, Nat.reduceLeDiff, Nat.reduceLT, Nat.reduceEqDiff, Nat.reduceBEq, Int.reduceLE, Int.reduceLT, Int.reduceEq, Int.reduceNeg, Int.reduceAdd, Int.reduceSub, Int.reduceMul, Int.reduceToNat, i_tree_told, hk, h, h1, h3, h4, h5, h6]
      | some x =>
        have lx := dig_len w hw l hl x e1
        rw [e1] at h1
        cases e2 : r.dig w with
        | none =>
          rw [e2] at h2
          simp only [kA, kO, dgE] at h1 h2 ⊢
          refine Ev_run t_tree_told rfl rfl ?_
          simp (maxSteps := 1000000) (disch := first | omega | (simp only [List.length_cons, List.length_nil, List.length_append, List.length_map, List.length_take, List.length_drop]; omega)) only [go_sem, ↓reduceIte, Nat.reduceSub, Nat.reduceAdd, Nat.reduceMul, Nat.reduceLeDiff, Nat.reduceLT, Nat.reduceEqDiff, Nat.reduceBEq, Int.reduceLE, Int.reduceLT, Int.reduceEq, Int.reduceNeg, Int.reduceAdd, Int.reduceSub, Int.reduceMul, Int.reduceToNat, i_tree_told, hk, h, h1, h2, h3, h4, h5, h6]
        | some y =>
          have ly := dig_len w hw r hr y e2
          rw [e2] at h2
          have h7 := Node_good w x p y ⟨hw.1, hw.2, lx, hl2, ly⟩
          have h8 := of_goodK w (nodeP x p y) hw (by simp only [nodeP, List.length_cons, List.length_append]; omega)
          simp only [kA, kO, dgE] at h1 h2 ⊢
          refine Ev_run t_tree_told rfl rfl ?_
          simp (maxSteps := 1000000) (disch := first | omega | (simp only [List.length_cons, List.length_nil, List.length_append, List.length_map, List.length_take, List.length_drop]; omega)) only [go_sem, ↓reduceIte, Nat.reduceSub, Nat.reduceAdd, Nat.reduceMul, Nat.reduceLeDiff, Nat.reduceLT, Nat.reduceEqDiff, Nat.reduceBEq, Int.reduceLE, Int.reduceLT, Int.reduceEq, Int.reduceNeg, Int.reduceAdd, Int.reduceSub, Int.reduceMul, Int.reduceToNat, i_tree_told, hk, h, h1, h2, h3, h4, h5, h6, h7, h8]
    · rw [dig_2 hk h]
      by_cases hc : (t.digest.length : Int) = w
      · rw [if_pos hc]
        have h5 := Pair_good w t.key t.digest ⟨hw.1, hw.2, hc⟩ (by omega)
        have hpl : (pairP t.key t.digest).length ≤ 1048576 := by
          have := byts_len t.key
          simp only [pairP, List.length_cons, List.length_append]
          omega
        have h6 := of_goodK w (pairP t.key t.digest) hw hpl
        have hl2 := hd (pairP t.key t.digest)
        generalize pairP t.key t.digest = pk at *
        generalize dg w pk = p at *
        cases e1 : l.dig w with
        | none =>
          rw [e1] at h1
          simp only [kA, kO, dgE] at h1 ⊢
          refine Ev_run t_tree_told rfl rfl ?_
          simp (maxSteps := 1000000) (disch := first | omega | (simp only [List.length_cons, List.length_nil, List.length_append, List.length_map, List.length_take, List.length_drop]; omega)) only [go_sem, ↓reduceIte, Nat.reduceSub, Nat.reduceAdd, Nat.reduceMul, Nat.reduceLeDiff, Nat.reduceLT, Nat.reduceEqDiff, Nat.reduceBEq, Int.reduceLE, Int.reduceLT, Int.reduceEq, Int.reduceNeg, Int.reduceAdd, Int.reduceSub, Int.reduceMul, Int.reduceToNat, i_tree_told, hk, h, h1, h5, h6]
        | some x =>
          have lx := dig_len w hw l hl x e1
          rw [e1] at h1
          cases e2 : r.dig w with
          | none =>
            rw [e2] at h2
            simp only [kA, kO, dgE] at h1 h2 ⊢
            refine Ev_run t_tree_told rfl rfl ?_
            simp (maxSteps := 1000000) (disch := first | omega | (simp only [List.length_cons, List.length_nil, List.length_append, List.length_map, List.length_take, List.length_drop]; omega)) only [go_sem, ↓reduceIte, Nat.reduceSub, Nat.reduceAdd, Nat.reduceMul, Nat.reduceLeDiff, Nat.reduceLT, Nat.reduceEqDiff, Nat.reduceBEq, Int.reduceLE, Int.reduceLT, Int.reduceEq, Int.reduceNeg, Int.reduceAdd, Int.reduceSub, Int.reduceMul, Int.reduceToNat, i_tree_told, hk, h, h1, h2, h5, h6]
          | some y =>
            have ly := dig_len w hw r hr y e2
            rw [e2] at h2
            have h7 := Node_good w x p y ⟨hw.1, hw.2, lx, hl2, ly⟩
            have h8 := of_goodK w (nodeP x p y) hw (by simp only [nodeP, List.length_cons, List.length_append]; omega)
            simp only [kA, kO, dgE] at h1 h2 ⊢
            refine Ev_run t_tree_told rfl rfl ?_
            simp (maxSteps := 1000000) (disch := first | omega | (simp only [List.length_cons, List.length_nil, List.length_append, List.length_map, List.length_take, List.length_drop]; omega)) only [go_sem, ↓reduceIte, Nat.reduceSub, Nat.reduceAdd, Nat.reduceMul, Nat.reduceLeDiff, Nat.reduceLT, Nat.reduceEqDiff, Nat.reduceBEq, Int.reduceLE, Int.reduceLT, Int.reduceEq, Int.reduceNeg, Int.reduceAdd, Int.reduceSub, Int.reduceMul, Int.reduceToNat, i_tree_told, hk, h, h1, h2, h5, h6, h7, h8]
      · rw [if_neg hc]
        have h5 := Pair_bad w t.key t.digest (by omega) (fun hh => hc hh.2.2) (by omega)
        have h6 := of_badK w [] hw 1 (by simp)
        try simp (maxSteps := 1000000) (disch := first | omega | (simp only [List.length_cons, List.length_nil, List.length_append, List.length_map, List.length_take, List.length_drop]; omega)) only [go_sem, ↓reduceIte, Nat.reduceSub, Nat.reduceAdd, Nat.reduceMul, Nat.reduceLeDiff, Nat.reduceLT, Nat.reduceEqDiff, Nat.reduceBEq, Int.reduceLE, Int.reduceLT, Int.reduceEq, Int.reduceNeg, Int.reduceAdd, Int.reduceSub, Int.reduceMul, Int.reduceToNat] at h6
        simp only [kA, kO, dgE]
        refine Ev_run t_tree_told rfl rfl ?_
        simp (maxSteps := 1000000) (disch := first | omega | (simp only [List.length_cons, List.length_nil, List.length_append, List.length_map, List.length_take, List.length_drop]; omega)) only [go_sem, ↓reduceIte, Nat.reduceSub, Nat.reduceAdd, Nat.reduceMul, Nat.reduceLeDiff, Nat.reduceLT, Nat.reduceEqDiff, Nat.reduceBEq, Int.reduceLE, Int.reduceLT, Int.reduceEq, Int.reduceNeg, Int.reduceAdd, Int.reduceSub, Int.reduceMul, Int.reduceToNat, i_tree_told, hk, h, h5, h6]
theorem Digest_evK (w : Int) (hw : 1 ≤ w ∧ w ≤ 32) (t : T) (hs : t.size ≤ 1048576) : Ev tab G0 n_tree_Digest [i64 w, avT t] [] = if t.chk = 0 then some ([kA (t.dig w), dgE (t.dig w)], [kO (t.dig w)]) else some ([.nilsl, errA t.chk], [.dead]) := by
  have h1 := tree_Check_ev t hs
  by_cases hc : t.chk = 0
  · rw [if_pos hc]
    rw [hc, errV, if_pos rfl] at h1
    have h2 := told_evK w hw t (chk_formed hc) hs
    cases hd : t.dig w with
    | none =>
      rw [hd] at h2
      simp only [kA, kO, dgE] at h2 ⊢
      refine Ev_run t_tree_Digest rfl rfl ?_
      simp (maxSteps := 1000000) (disch := first | omega | (simp only [List.length_cons, List.length_nil, List.length_append, List.length_map, List.length_take, List.length_drop]; omega)) only [go_sem, ↓reduceIte, Nat.reduceSub, Nat.reduceAdd, Nat.reduceMul, Nat.reduceLeDiff, Nat.reduceLT, Nat.reduceEqDiff, Nat.reduceBEq, Int.reduceLE, Int.reduceLT, Int.reduceEq, Int.reduceNeg, Int.reduceAdd, Int.reduceSub, Int.reduceMul, Int.reduceToNat, i_tree_Digest, h1, h2]
    | some d =>
      rw [hd] at h2
      simp only [kA, kO, dgE] at h2 ⊢
      refine Ev_run t_tree_Digest rfl rfl ?_
      simp (maxSteps := 1000000) (disch := first | omega | (simp only [List.length_cons, List.length_nil, List.length_append, List.length_map, List.length_take, List.length_drop]; omega)) only [go_sem, ↓reduceIte, Nat.reduceSub, Nat.reduceAdd, Nat.reduceMul, Nat.reduceLeDiff, Nat.reduceLT, Nat.reduceEqDiff, Nat.reduceBEq, Int.reduceLE, Int.reduceLT, Int.reduceEq, Int.reduceNeg, Int.reduceAdd, Int.reduceSub, Int.reduceMul, Int.reduceToNat, i_tree_Digest, h1, h2]
  · rw [if_neg hc]
    rw [errV, if_neg hc] at h1
    refine Ev_run t_tree_Digest rfl rfl ?_
    simp (maxSteps := 1000000) (disch := first | omega | (simp only [List.length_cons, List.length_nil, List.length_append, List.length_map, List.length_take, List.length_drop]; omega)) only [go_sem, ↓reduceIte, Nat.reduceSub, Nat.reduceAdd, Nat.reduceMul, Nat.reduceLeDiff, Nat.reduceLT, Nat.reduceEqDiff, Nat.reduceBEq, Int.reduceLE, Int.reduceLT, Int.reduceEq, Int.reduceNeg, Int.reduceAdd, Int.reduceSub, Int.reduceMul, Int.reduceToNat, i_tree_Digest, h1]
theorem small04_ev (t : T) (hs : t.size ≤ 1048576) : Ev tab G0 n_law04_small [avT t] [] = some ([bo (decide (0 ≤ t.light 500 200))], []) := by
  have h1 := ref04_Light_ev t 500 200 (by omega) (by omega) hs
  refine Ev_run t_law04_small rfl rfl ?_
  simp (maxSteps := 1000000) (disch := first | omega | (simp only [List.length_cons, List.length_nil, List.length_append, List.length_map, List.length_take, List.length_drop]; omega)) only [go_sem, ↓reduceIte, Nat.reduceSub, Nat.reduceAdd, Nat.reduceMul, Nat.reduceLeDiff, Nat.reduceLT, Nat.reduceEqDiff, Nat.reduceBEq, Int.reduceLE, Int.reduceLT, Int.reduceEq, Int.reduceNeg, Int.reduceAdd, Int.reduceSub, Int.reduceMul, Int.reduceToNat, i_law04_small, h1]
theorem shaS_3 : dg 1 [3] = [8] := by kernel_rfl
theorem up04_ev : Ev tab G0 n_law04_up [] [] = some ([bo true], []) := by
  have h1 := Digest_evK 1 (by decide) T.no (by decide)
  have hc : T.no.chk = 0 := by kernel_rfl
  rw [if_pos hc, dig_0 (t := .no) rfl, shaS_3] at h1
  simp only [kA, kO, dgE] at h1
  have h2 : Ev tab G0 n_tree_Check [avT (.mk 1 [] [] [] [T.no])] [] = some ([errA 3], []) := Ev_by 40 (by kernel_rfl)
  have h3 : Ev tab G0 n_tree_Full [avT T.no] [] = some ([bo true], []) := Ev_by 40 (by kernel_rfl)
  have e1 : avT T.no = .agg [i64 0, .sl true [], .sl true [], .sl true [], .sl true []] := rfl
  have e2 : avT (.mk 1 [] [] [] [T.no]) = .agg [i64 1, .sl true [], .sl true [], .sl true [], .sl true [[.sc (.int .i64 0), .sl [], .sl [], .sl [], .sl []]]] := rfl
  rw [e1] at h1 h3
  rw [e2] at h2
  have e8 : byt 8 = 8 := rfl
  refine Ev_run t_law04_up rfl rfl ?_
  simp (maxSteps := 1000000) (disch := first | omega | (simp only [List.length_cons, List.length_nil, List.length_append, List.length_map, List.length_take, List.length_drop]; omega)) only [go_sem, ↓reduceIte, Nat.reduceSub, Nat.reduceAdd, Nat.reduceMul, Nat.reduceLeDiff, Nat.reduceLT, Nat.reduceEqDiff, Nat.reduceBEq, Int.reduceLE, Int.reduceLT, Int.reduceEq, Int.reduceNeg, Int.reduceAdd, Int.reduceSub, Int.reduceMul, Int.reduceToNat, i_law04_up, e8, h1, h2, h3, List.length_cons, List.length_nil]

end Go.Proofs.YtebiajdkgpcidaaDoor
