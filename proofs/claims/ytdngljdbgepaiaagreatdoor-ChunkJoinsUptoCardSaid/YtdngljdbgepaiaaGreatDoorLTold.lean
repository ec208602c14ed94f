/-
  A tree's digest.
-/
import Derived.Test.YtdngljdbgepaiaaGreatDoorLTree5
import Derived.Test.YtdngljdbgepaiaaGreatDoorLDig
set_option linter.unusedSimpArgs false
set_option linter.unusedVariables false
set_option maxRecDepth 200000
set_option maxHeartbeats 4000000
namespace Go.Proofs.YtdngljdbgepaiaaGreatDoor
open Go.Ev

def digN (w k : Int) (a b c : List UInt8) (ds : List (Option (List UInt8))) : Option (List UInt8) :=
  if k = 0 then some (dg w [3]) else if k = 3 then (if (c.length : Int) = w then some c else none) else
  let v := if k = 1 then dg w (0 :: b) else c
  if (v.length : Int) = w then (match ds with
    | [some x, some y] => some (dg w (nodeP x (dg w (pairP a v)) y))
    | _ => none) else none
mutual
def T.dig (w : Int) : T → Option (List UInt8)
  | .mk k a b c l => digN w k a b c (digL w l)
def digL (w : Int) : List T → List (Option (List UInt8))
  | [] => []
  | t :: l => t.dig w :: digL w l
end
theorem okT_of {t : T} (h : t.formed = true) : okT t := by
  rw [formed_eq] at h
  simp only [Bool.and_eq_true, decide_eq_true_eq] at h
  exact h.1
theorem dig_eq (w : Int) (t : T) : t.dig w = digN w t.kind t.key t.value t.digest (digL w t.kids) := by cases t; simp only [T.dig]; rfl
theorem dig_0 {w : Int} {t : T} (h : t.kind = 0) : t.dig w = some (dg w [3]) := by rw [dig_eq, digN, if_pos h]
theorem dig_3 {w : Int} {t : T} (h : t.kind = 3) : t.dig w = if (t.digest.length : Int) = w then some t.digest else none := by rw [dig_eq, digN, if_neg (by omega), if_pos h]
theorem dig_1 {w : Int} {t l r : T} (hw : 1 ≤ w ∧ w ≤ 32) (h : t.kind = 1) (hk : t.kids = [l, r]) : t.dig w = match l.dig w, r.dig w with
    | some x, some y => some (dg w (nodeP x (dg w (pairP t.key (dg w (0 :: t.value)))) y))
    | _, _ => none := by
  rw [dig_eq, digN, if_neg (by omega), if_neg (by omega), hk]
  simp only [digL, if_pos h]
  rw [if_pos (by rw [dg_len _ _ (by omega)]; omega)]
  cases l.dig w <;> cases r.dig w <;> rfl
theorem dig_2 {w : Int} {t l r : T} (h : t.kind = 2) (hk : t.kids = [l, r]) : t.dig w = if (t.digest.length : Int) = w then (match l.dig w, r.dig w with
    | some x, some y => some (dg w (nodeP x (dg w (pairP t.key t.digest)) y))
    | _, _ => none) else none := by
  have h1 : ¬ t.kind = 1 := by omega
  rw [dig_eq, digN, if_neg (by omega), if_neg (by omega), hk]
  simp only [digL, if_neg h1]
  split
  · cases l.dig w <;> cases r.dig w <;> rfl
  · rfl
theorem dig_len (w : Int) (hw : 1 ≤ w ∧ w ≤ 32) : ∀ t : T, t.formed = true → ∀ d, t.dig w = some d → (d.length : Int) = w := fun t hf d h => by
  have hd : ∀ b, ((dg w b).length : Int) = w := fun b => by rw [dg_len _ _ (by omega)]; omega
  rw [dig_eq, digN] at h
  split at h
  · simp only [Option.some.injEq] at h
    rw [← h]; exact hd _
  · split at h
    · split at h
      · simp only [Option.some.injEq] at h
        rw [← h]; assumption
      · cases h
    · by_cases hv : ((if t.kind = 1 then dg w (0 :: t.value) else t.digest).length : Int) = w
      · rw [if_pos hv] at h
        generalize digL w t.kids = ds at h
        match ds, h with
        | [some x, some y], h =>
          simp only [Option.some.injEq] at h
          rw [← h]; exact hd _
      · rw [if_neg hv] at h
        cases h
def dgV : Option (List UInt8) → List UInt8
  | some d => d
  | none => []
def dgE : Option (List UInt8) → AV
  | some _ => .s .nilIface
  | none => errA 3
theorem tree_of_good (w : Int) (b : List UInt8) (h : 1 ≤ w ∧ w ≤ 32) (hb : b.length ≤ 1048576) : Ev tab G0 n_tree_of [i64 w, .sl true (eB b), .s .nilIface] [] = some ([.sl true (eB (dg w b)), .s .nilIface], []) := by
  have h1 := digest_Of_good w b h hb
  refine Ev_run t_tree_of rfl rfl ?_
  simp (maxSteps := 1000000) (disch := first | omega | (simp only [lens, List.length_map]; omega)) only [go_sem, ↓reduceIte, Nat.reduceSub, Nat.reduceAdd, Nat.reduceMul, Nat.reduceLeDiff, Nat.reduceLT, Nat.reduceEqDiff, Nat.reduceBEq, Int.reduceLE, Int.reduceLT, Int.reduceEq, Int.reduceNeg, Int.reduceAdd, Int.reduceSub, Int.reduceMul, Int.reduceToNat, i_tree_of, h1]
theorem tree_of_bad (w : Int) (b : List UInt8) (h : 1 ≤ w ∧ w ≤ 32) (c : Int) (hb : b.length ≤ 1048576) : Ev tab G0 n_tree_of [i64 w, .sl true (eB b), errA c] [] = some ([.sl true [], errA 3], []) := by
  refine Ev_run t_tree_of rfl rfl ?_
  simp (maxSteps := 1000000) (disch := first | omega | (simp only [lens, List.length_map]; omega)) only [go_sem, ↓reduceIte, Nat.reduceSub, Nat.reduceAdd, Nat.reduceMul, Nat.reduceLeDiff, Nat.reduceLT, Nat.reduceEqDiff, Nat.reduceBEq, Int.reduceLE, Int.reduceLT, Int.reduceEq, Int.reduceNeg, Int.reduceAdd, Int.reduceSub, Int.reduceMul, Int.reduceToNat, i_tree_of]
theorem told_ev (w : Int) (hw : 1 ≤ w ∧ w ≤ 32) : ∀ t : T, t.formed = true → t.size ≤ 1048576 → Ev tab G0 n_tree_told [i64 w, avT t] [] = some ([.sl true (eB (dgV (t.dig w))), dgE (t.dig w)], []) := F_ind
  (fun t hf h hb => by
    have hz := size_eq t
    have ho := okT_of hf
    unfold okT at ho
    rw [h] at ho
    simp only [List.length_nil] at ho
    have hk : t.kind = 0 ∨ t.kind = 3 := by omega
    rcases hk with hk | hk
    · have h1 := None_ev
      have h2 := digest_Of_good w [3] hw (by simp)
      rw [dig_0 hk]
      simp only [dgV, dgE]
      refine Ev_run t_tree_told rfl rfl ?_
      simp (maxSteps := 1000000) (disch := first | omega | (simp only [lens, List.length_map]; omega)) only [go_sem, ↓reduceIte, Nat.reduceSub, Nat.reduceAdd, Nat.reduceMul, Nat.reduceLeDiff, Nat.reduceLT, Nat.reduceEqDiff, Nat.reduceBEq, Int.reduceLE, Int.reduceLT, Int.reduceEq, Int.reduceNeg, Int.reduceAdd, Int.reduceSub, Int.reduceMul, Int.reduceToNat, i_tree_told, hk, h1, h2]
    · rw [dig_3 hk]
      have h1 := clone_bytes_ev t.digest (by omega)
      refine Ev_run t_tree_told rfl rfl ?_
      by_cases hc : (t.digest.length : Int) = w
      · rw [if_pos hc]
        simp only [dgV, dgE]
        simp (maxSteps := 1000000) (disch := first | omega | (simp only [lens, List.length_map]; omega)) only [go_sem, ↓reduceIte, Nat.reduceSub, Nat.reduceAdd, Nat.reduceMul, Nat.reduceLeDiff, Nat.reduceLT, Nat.reduceEqDiff, Nat.reduceBEq, Int.reduceLE, Int.reduceLT, Int.reduceEq, Int.reduceNeg, Int.reduceAdd, Int.reduceSub, Int.reduceMul, Int.reduceToNat, i_tree_told, hk, h1]
      · rw [if_neg hc]
        simp only [dgV, dgE]
        simp (maxSteps := 1000000) (disch := first | omega | (simp only [lens, List.length_map]; omega)) only [go_sem, ↓reduceIte, Nat.reduceSub, Nat.reduceAdd, Nat.reduceMul, Nat.reduceLeDiff, Nat.reduceLT, Nat.reduceEqDiff, Nat.reduceBEq, Int.reduceLE, Int.reduceLT, Int.reduceEq, Int.reduceNeg, Int.reduceAdd, Int.reduceSub, Int.reduceMul, Int.reduceToNat, i_tree_told, hk])
  fun t l r hf h hl hr ih1 ih2 hb => by
    have hz := size_two h
    have h1 := ih1 (by omega)
    have h2 := ih2 (by omega)
    have ho := okT_of hf
    unfold okT at ho
    rw [h] at ho
    simp only [List.length_cons, List.length_nil] at ho
    have hk : t.kind = 1 ∨ t.kind = 2 := by omega
    have hd : ∀ b, ((dg w b).length : Int) = w := fun b => by rw [dg_len _ _ (by omega)]; omega
    rcases hk with hk | hk
    · rw [dig_1 hw hk h]
      have h3 := Value_ev t.value (by omega)
      have h4 := digest_Of_good w (0 :: t.value) hw (by simp only [List.length_cons]; omega)
      have h5 := Pair_good w t.key (dg w (0 :: t.value)) ⟨hw.1, hw.2, hd _⟩ (by omega)
      have hpl : (pairP t.key (dg w (0 :: t.value))).length ≤ 1048576 := by
        have := hd (0 :: t.value)
        have := byts_len t.key
        simp only [pairP, List.length_cons, List.length_append]
        omega
      have h6 := tree_of_good w (pairP t.key (dg w (0 :: t.value))) hw hpl
      have hl1 := hd (0 :: t.value)
      have hl2 := hd (pairP t.key (dg w (0 :: t.value)))
      generalize dg w (0 :: t.value) = v at *
      generalize pairP t.key v = pk at *
      generalize dg w pk = p at *
      cases e1 : l.dig w with
      | none =>
        rw [e1] at h1
        simp only [dgV, dgE] at h1 ⊢
        refine Ev_run t_tree_told rfl rfl ?_
        simp (maxSteps := 1000000) (disch := first | omega | (simp only [lens, List.length_map]; omega)) only [go_sem, ↓reduceIte, Nat.reduceSub, Nat.reduceAdd, Nat.reduceMul, Nat.reduceLeDiff, Nat.reduceLT, Nat.reduceEqDiff, Nat.reduceBEq, Int.reduceLE, Int.reduceLT, Int.reduceEq, Int.reduceNeg, Int.reduceAdd, Int.reduceSub, Int.reduceMul, Int.reduceToNat, i_tree_told, hk, h, h1, h3, h4, h5, h6]
      | some x =>
        have lx := dig_len w hw l hl x e1
        rw [e1] at h1
        cases e2 : r.dig w with
        | none =>
          rw [e2] at h2
          simp only [dgV, dgE] at h1 h2 ⊢
          refine Ev_run t_tree_told rfl rfl ?_
          simp (maxSteps := 1000000) (disch := first | omega | (simp only [lens, List.length_map]; omega)) only [go_sem, ↓reduceIte, Nat.reduceSub, Nat.reduceAdd, Nat.reduceMul, Nat.reduceLeDiff, Nat.reduceLT, Nat.reduceEqDiff, Nat.reduceBEq, Int.reduceLE, Int.reduceLT, Int.reduceEq, Int.reduceNeg, Int.reduceAdd, Int.reduceSub, Int.reduceMul, Int.reduceToNat, i_tree_told, hk, h, h1, h2, h3, h4, h5, h6]
        | some y =>
          have ly := dig_len w hw r hr y e2
          rw [e2] at h2
          have h7 := Node_good w x p y ⟨hw.1, hw.2, lx, hl2, ly⟩
          have h8 := tree_of_good w (nodeP x p y) hw (by simp only [nodeP, List.length_cons, List.length_append]; omega)
          simp only [dgV, dgE] at h1 h2 ⊢
          refine Ev_run t_tree_told rfl rfl ?_
          simp (maxSteps := 1000000) (disch := first | omega | (simp only [lens, List.length_map]; omega)) only [go_sem, ↓reduceIte, Nat.reduceSub, Nat.reduceAdd, Nat.reduceMul, Nat.reduceLeDiff, Nat.reduceLT, Nat.reduceEqDiff, Nat.reduceBEq, Int.reduceLE, Int.reduceLT, Int.reduceEq, Int.reduceNeg, Int.reduceAdd, Int.reduceSub, Int.reduceMul, Int.reduceToNat, i_tree_told, hk, h, h1, h2, h3, h4, h5, h6, h7, h8]
    · rw [dig_2 hk h]
      by_cases hc : (t.digest.length : Int) = w
      · rw [if_pos hc]
        have h5 := Pair_good w t.key t.digest ⟨hw.1, hw.2, hc⟩ (by omega)
        have hpl : (pairP t.key t.digest).length ≤ 1048576 := by
          have := byts_len t.key
          simp only [pairP, List.length_cons, List.length_append]
          omega
        have h6 := tree_of_good w (pairP t.key t.digest) hw hpl
        have hl2 := hd (pairP t.key t.digest)
        generalize pairP t.key t.digest = pk at *
        generalize dg w pk = p at *
        cases e1 : l.dig w with
        | none =>
          rw [e1] at h1
          simp only [dgV, dgE] at h1 ⊢
          refine Ev_run t_tree_told rfl rfl ?_
          simp (maxSteps := 1000000) (disch := first | omega | (simp only [lens, List.length_map]; omega)) only [go_sem, ↓reduceIte, Nat.reduceSub, Nat.reduceAdd, Nat.reduceMul, Nat.reduceLeDiff, Nat.reduceLT, Nat.reduceEqDiff, Nat.reduceBEq, Int.reduceLE, Int.reduceLT, Int.reduceEq, Int.reduceNeg, Int.reduceAdd, Int.reduceSub, Int.reduceMul, Int.reduceToNat, i_tree_told, hk, h, h1, h5, h6]
        | some x =>
          have lx := dig_len w hw l hl x e1
          rw [e1] at h1
          cases e2 : r.dig w with
          | none =>
            rw [e2] at h2
            simp only [dgV, dgE] at h1 h2 ⊢
            refine Ev_run t_tree_told rfl rfl ?_
            simp (maxSteps := 1000000) (disch := first | omega | (simp only [lens, List.length_map]; omega)) only [go_sem, ↓reduceIte, Nat.reduceSub, Nat.reduceAdd, Nat.reduceMul, Nat.reduceLeDiff, Nat.reduceLT, Nat.reduceEqDiff, Nat.reduceBEq, Int.reduceLE, Int.reduceLT, Int.reduceEq, Int.reduceNeg, Int.reduceAdd, Int.reduceSub, Int.reduceMul, Int.reduceToNat, i_tree_told, hk, h, h1, h2, h5, h6]
          | some y =>
            have ly := dig_len w hw r hr y e2
            rw [e2] at h2
            have h7 := Node_good w x p y ⟨hw.1, hw.2, lx, hl2, ly⟩
            have h8 := tree_of_good w (nodeP x p y) hw (by simp only [nodeP, List.length_cons, List.length_append]; omega)
            simp only [dgV, dgE] at h1 h2 ⊢
            refine Ev_run t_tree_told rfl rfl ?_
            simp (maxSteps := 1000000) (disch := first | omega | (simp only [lens, List.length_map]; omega)) only [go_sem, ↓reduceIte, Nat.reduceSub, Nat.reduceAdd, Nat.reduceMul, Nat.reduceLeDiff, Nat.reduceLT, Nat.reduceEqDiff, Nat.reduceBEq, Int.reduceLE, Int.reduceLT, Int.reduceEq, Int.reduceNeg, Int.reduceAdd, Int.reduceSub, Int.reduceMul, Int.reduceToNat, i_tree_told, hk, h, h1, h2, h5, h6, h7, h8]
      · rw [if_neg hc]
        have h5 := Pair_bad w t.key t.digest (by omega) (fun hh => hc hh.2.2) (by omega)
        have h6 := tree_of_bad w [] hw 1 (by simp)
        try simp (maxSteps := 1000000) (disch := first | omega | (simp only [lens, List.length_map]; omega)) only [go_sem, ↓reduceIte, Nat.reduceSub, Nat.reduceAdd, Nat.reduceMul, Nat.reduceLeDiff, Nat.reduceLT, Nat.reduceEqDiff, Nat.reduceBEq, Int.reduceLE, Int.reduceLT, Int.reduceEq, Int.reduceNeg, Int.reduceAdd, Int.reduceSub, Int.reduceMul, Int.reduceToNat] at h6
        simp only [dgV, dgE]
        refine Ev_run t_tree_told rfl rfl ?_
        simp (maxSteps := 1000000) (disch := first | omega | (simp only [lens, List.length_map]; omega)) only [go_sem, ↓reduceIte, Nat.reduceSub, Nat.reduceAdd, Nat.reduceMul, Nat.reduceLeDiff, Nat.reduceLT, Nat.reduceEqDiff, Nat.reduceBEq, Int.reduceLE, Int.reduceLT, Int.reduceEq, Int.reduceNeg, Int.reduceAdd, Int.reduceSub, Int.reduceMul, Int.reduceToNat, i_tree_told, hk, h, h5, h6]
theorem tree_Digest_ev (w : Int) (hw : 1 ≤ w ∧ w ≤ 32) (t : T) (hs : t.size ≤ 1048576) : Ev tab G0 n_tree_Digest [i64 w, avT t] [] = some (if t.chk = 0 then [.sl true (eB (dgV (t.dig w))), dgE (t.dig w)] else [.sl true [], errA t.chk], []) := by
  have h1 := tree_Check_ev t hs
  by_cases hc : t.chk = 0
  · rw [if_pos hc]
    rw [hc, errV, if_pos rfl] at h1
    have h2 := told_ev w hw t (chk_formed hc) hs
    cases hd : t.dig w with
    | none =>
      rw [hd] at h2
      simp only [dgV, dgE] at h2 ⊢
      refine Ev_run t_tree_Digest rfl rfl ?_
      simp (maxSteps := 1000000) (disch := first | omega | (simp only [lens, List.length_map]; omega)) only [go_sem, ↓reduceIte, Nat.reduceSub, Nat.reduceAdd, Nat.reduceMul, Nat.reduceLeDiff, Nat.reduceLT, Nat.reduceEqDiff, Nat.reduceBEq, Int.reduceLE, Int.reduceLT, Int.reduceEq, Int.reduceNeg, Int.reduceAdd, Int.reduceSub, Int.reduceMul, Int.reduceToNat, i_tree_Digest, h1, h2]
    | some d =>
      rw [hd] at h2
      simp only [dgV, dgE] at h2 ⊢
      refine Ev_run t_tree_Digest rfl rfl ?_
      simp (maxSteps := 1000000) (disch := first | omega | (simp only [lens, List.length_map]; omega)) only [go_sem, ↓reduceIte, Nat.reduceSub, Nat.reduceAdd, Nat.reduceMul, Nat.reduceLeDiff, Nat.reduceLT, Nat.reduceEqDiff, Nat.reduceBEq, Int.reduceLE, Int.reduceLT, Int.reduceEq, Int.reduceNeg, Int.reduceAdd, Int.reduceSub, Int.reduceMul, Int.reduceToNat, i_tree_Digest, h1, h2]
  · rw [if_neg hc]
    rw [errV, if_neg hc] at h1
    refine Ev_run t_tree_Digest rfl rfl ?_
    simp (maxSteps := 1000000) (disch := first | omega | (simp only [lens, List.length_map]; omega)) only [go_sem, ↓reduceIte, Nat.reduceSub, Nat.reduceAdd, Nat.reduceMul, Nat.reduceLeDiff, Nat.reduceLT, Nat.reduceEqDiff, Nat.reduceBEq, Int.reduceLE, Int.reduceLT, Int.reduceEq, Int.reduceNeg, Int.reduceAdd, Int.reduceSub, Int.reduceMul, Int.reduceToNat, i_tree_Digest, h1]
/-- What the document's digest is of a tree that has none: its own. -/
def rgV (w : Int) (t : T) : List UInt8 := if t.kind = 3 then t.digest else dgV (t.dig w)
theorem rgV_some {w : Int} {t : T} {d : List UInt8} (h : t.dig w = some d) : rgV w t = d := by
  unfold rgV
  split
  · rename_i hk
    rw [dig_3 hk] at h
    split at h
    · simpa using h
    · cases h
  · rw [h]; rfl
theorem rdig_ev (w : Int) (hw : 1 ≤ w ∧ w ≤ 32) : ∀ t : T, t.formed = true → t.size ≤ 1048576 → Ev tab G0 n_ref04_Digest [avTb tabK V1, i64 w, avT t] [] = some ([.sl true (eB (rgV w t)), bo (t.dig w).isSome], []) := F_ind
  (fun t hf h hb => by
    have hz := size_eq t
    have ho := okT_of hf
    unfold okT at ho
    rw [h] at ho
    simp only [List.length_nil] at ho
    have hk : t.kind = 0 ∨ t.kind = 3 := by omega
    have e3 : byt 3 = 3 := rfl
    rcases hk with hk | hk
    · have h2 := ref03_Of_ev w [3] hw (by simp)
      try simp (maxSteps := 1000000) (disch := first | omega | (simp only [lens, List.length_map]; omega)) only [go_sem, ↓reduceIte, Nat.reduceSub, Nat.reduceAdd, Nat.reduceMul, Nat.reduceLeDiff, Nat.reduceLT, Nat.reduceEqDiff, Nat.reduceBEq, Int.reduceLE, Int.reduceLT, Int.reduceEq, Int.reduceNeg, Int.reduceAdd, Int.reduceSub, Int.reduceMul, Int.reduceToNat] at h2
      rw [rgV_some (dig_0 hk), dig_0 hk]
      simp only [Option.isSome]
      refine Ev_run t_ref04_Digest rfl rfl ?_
      simp (maxSteps := 1000000) (disch := first | omega | (simp only [lens, List.length_map]; omega)) only [go_sem, ↓reduceIte, Nat.reduceSub, Nat.reduceAdd, Nat.reduceMul, Nat.reduceLeDiff, Nat.reduceLT, Nat.reduceEqDiff, Nat.reduceBEq, Int.reduceLE, Int.reduceLT, Int.reduceEq, Int.reduceNeg, Int.reduceAdd, Int.reduceSub, Int.reduceMul, Int.reduceToNat, i_ref04_Digest, hk, h2, e3]
    · have hv : rgV w t = t.digest := if_pos hk
      rw [dig_3 hk, hv]
      refine Ev_run t_ref04_Digest rfl rfl ?_
      by_cases hc : (t.digest.length : Int) = w
      · rw [if_pos hc]
        simp only [Option.isSome]
        simp (maxSteps := 1000000) (disch := first | omega | (simp only [lens, List.length_map]; omega)) only [go_sem, ↓reduceIte, Nat.reduceSub, Nat.reduceAdd, Nat.reduceMul, Nat.reduceLeDiff, Nat.reduceLT, Nat.reduceEqDiff, Nat.reduceBEq, Int.reduceLE, Int.reduceLT, Int.reduceEq, Int.reduceNeg, Int.reduceAdd, Int.reduceSub, Int.reduceMul, Int.reduceToNat, i_ref04_Digest, hk]
      · rw [if_neg hc]
        simp only [Option.isSome]
        simp (maxSteps := 1000000) (disch := first | omega | (simp only [lens, List.length_map]; omega)) only [go_sem, ↓reduceIte, Nat.reduceSub, Nat.reduceAdd, Nat.reduceMul, Nat.reduceLeDiff, Nat.reduceLT, Nat.reduceEqDiff, Nat.reduceBEq, Int.reduceLE, Int.reduceLT, Int.reduceEq, Int.reduceNeg, Int.reduceAdd, Int.reduceSub, Int.reduceMul, Int.reduceToNat, i_ref04_Digest, hk])
  fun t l r hf h hl hr ih1 ih2 hb => by
    have hz := size_two h
    have h1 := ih1 (by omega)
    have h2 := ih2 (by omega)
    have ho := okT_of hf
    unfold okT at ho
    rw [h] at ho
    simp only [List.length_cons, List.length_nil] at ho
    have hk : t.kind = 1 ∨ t.kind = 2 := by omega
    have hv : rgV w t = dgV (t.dig w) := if_neg (by omega)
    rw [hv]
    have hd : ∀ b, ((dg w b).length : Int) = w := fun b => by rw [dg_len _ _ (by omega)]; omega
    try simp (maxSteps := 1000000) (disch := first | omega | (simp only [lens, List.length_map]; omega)) only [go_sem, ↓reduceIte, Nat.reduceSub, Nat.reduceAdd, Nat.reduceMul, Nat.reduceLeDiff, Nat.reduceLT, Nat.reduceEqDiff, Nat.reduceBEq, Int.reduceLE, Int.reduceLT, Int.reduceEq, Int.reduceNeg, Int.reduceAdd, Int.reduceSub, Int.reduceMul, Int.reduceToNat] at h1
    try simp (maxSteps := 1000000) (disch := first | omega | (simp only [lens, List.length_map]; omega)) only [go_sem, ↓reduceIte, Nat.reduceSub, Nat.reduceAdd, Nat.reduceMul, Nat.reduceLeDiff, Nat.reduceLT, Nat.reduceEqDiff, Nat.reduceBEq, Int.reduceLE, Int.reduceLT, Int.reduceEq, Int.reduceNeg, Int.reduceAdd, Int.reduceSub, Int.reduceMul, Int.reduceToNat] at h2
    rcases hk with hk | hk
    · rw [dig_1 hw hk h]
      have h3 := rValue_ev t.value (by omega)
      have h4 := ref03_Of_ev w (0 :: t.value) hw (by simp only [List.length_cons]; omega)
      have h5 := rPair_ev t.key (dg w (0 :: t.value)) ⟨by have := hd (0 :: t.value); omega, by omega⟩
      have hpl : (pairP t.key (dg w (0 :: t.value))).length ≤ 1048576 := by
        have := hd (0 :: t.value)
        have := byts_len t.key
        simp only [pairP, List.length_cons, List.length_append]
        omega
      have h6 := ref03_Of_ev w (pairP t.key (dg w (0 :: t.value))) hw hpl
      have hl1 := hd (0 :: t.value)
      have hl2 := hd (pairP t.key (dg w (0 :: t.value)))
      generalize dg w (0 :: t.value) = v at *
      generalize pairP t.key v = pk at *
      generalize dg w pk = p at *
      try simp (maxSteps := 1000000) (disch := first | omega | (simp only [lens, List.length_map]; omega)) only [go_sem, ↓reduceIte, Nat.reduceSub, Nat.reduceAdd, Nat.reduceMul, Nat.reduceLeDiff, Nat.reduceLT, Nat.reduceEqDiff, Nat.reduceBEq, Int.reduceLE, Int.reduceLT, Int.reduceEq, Int.reduceNeg, Int.reduceAdd, Int.reduceSub, Int.reduceMul, Int.reduceToNat] at h4
      try simp (maxSteps := 1000000) (disch := first | omega | (simp only [lens, List.length_map]; omega)) only [go_sem, ↓reduceIte, Nat.reduceSub, Nat.reduceAdd, Nat.reduceMul, Nat.reduceLeDiff, Nat.reduceLT, Nat.reduceEqDiff, Nat.reduceBEq, Int.reduceLE, Int.reduceLT, Int.reduceEq, Int.reduceNeg, Int.reduceAdd, Int.reduceSub, Int.reduceMul, Int.reduceToNat] at h6
      cases e1 : l.dig w with
      | none =>
        rw [e1] at h1
        generalize rgV w l = z1 at *
        cases e2 : r.dig w with
        | none =>
          rw [e2] at h2
          generalize rgV w r = z2 at *
          simp only [dgV, Option.isSome] at h1 h2 ⊢
          refine Ev_run t_ref04_Digest rfl rfl ?_
          simp (maxSteps := 1000000) (disch := first | omega | (simp only [lens, List.length_map]; omega)) only [go_sem, ↓reduceIte, Nat.reduceSub, Nat.reduceAdd, Nat.reduceMul, Nat.reduceLeDiff, Nat.reduceLT, Nat.reduceEqDiff, Nat.reduceBEq, Int.reduceLE, Int.reduceLT, Int.reduceEq, Int.reduceNeg, Int.reduceAdd, Int.reduceSub, Int.reduceMul, Int.reduceToNat, i_ref04_Digest, hk, h, h1, h2, h3, h4]
        | some y =>
          rw [e2, rgV_some e2] at h2
          simp only [dgV, Option.isSome] at h1 h2 ⊢
          refine Ev_run t_ref04_Digest rfl rfl ?_
          simp (maxSteps := 1000000) (disch := first | omega | (simp only [lens, List.length_map]; omega)) only [go_sem, ↓reduceIte, Nat.reduceSub, Nat.reduceAdd, Nat.reduceMul, Nat.reduceLeDiff, Nat.reduceLT, Nat.reduceEqDiff, Nat.reduceBEq, Int.reduceLE, Int.reduceLT, Int.reduceEq, Int.reduceNeg, Int.reduceAdd, Int.reduceSub, Int.reduceMul, Int.reduceToNat, i_ref04_Digest, hk, h, h1, h2, h3, h4]
      | some x =>
        have lx := dig_len w hw l hl x e1
        rw [e1, rgV_some e1] at h1
        cases e2 : r.dig w with
        | none =>
          rw [e2] at h2
          generalize rgV w r = z2 at *
          simp only [dgV, Option.isSome] at h1 h2 ⊢
          refine Ev_run t_ref04_Digest rfl rfl ?_
          simp (maxSteps := 1000000) (disch := first | omega | (simp only [lens, List.length_map]; omega)) only [go_sem, ↓reduceIte, Nat.reduceSub, Nat.reduceAdd, Nat.reduceMul, Nat.reduceLeDiff, Nat.reduceLT, Nat.reduceEqDiff, Nat.reduceBEq, Int.reduceLE, Int.reduceLT, Int.reduceEq, Int.reduceNeg, Int.reduceAdd, Int.reduceSub, Int.reduceMul, Int.reduceToNat, i_ref04_Digest, hk, h, h1, h2, h3, h4]
        | some y =>
          have ly := dig_len w hw r hr y e2
          rw [e2, rgV_some e2] at h2
          simp only [dgV, Option.isSome] at h1 h2 ⊢
          have h7 := rNode_ev x p y ⟨by omega, by omega, by omega⟩
          have h8 := ref03_Of_ev w (nodeP x p y) hw (by simp only [nodeP, List.length_cons, List.length_append]; omega)
          generalize nodeP x p y = nd at *
          generalize dg w nd = z at *
          try simp (maxSteps := 1000000) (disch := first | omega | (simp only [lens, List.length_map]; omega)) only [go_sem, ↓reduceIte, Nat.reduceSub, Nat.reduceAdd, Nat.reduceMul, Nat.reduceLeDiff, Nat.reduceLT, Nat.reduceEqDiff, Nat.reduceBEq, Int.reduceLE, Int.reduceLT, Int.reduceEq, Int.reduceNeg, Int.reduceAdd, Int.reduceSub, Int.reduceMul, Int.reduceToNat] at h8
          refine Ev_run t_ref04_Digest rfl rfl ?_
          simp (maxSteps := 1000000) (disch := first | omega | (simp only [lens, List.length_map]; omega)) only [go_sem, ↓reduceIte, Nat.reduceSub, Nat.reduceAdd, Nat.reduceMul, Nat.reduceLeDiff, Nat.reduceLT, Nat.reduceEqDiff, Nat.reduceBEq, Int.reduceLE, Int.reduceLT, Int.reduceEq, Int.reduceNeg, Int.reduceAdd, Int.reduceSub, Int.reduceMul, Int.reduceToNat, i_ref04_Digest, hk, h, h1, h2, h3, h4, h5, h6, h7, h8]
    · rw [dig_2 hk h]
      by_cases hc : (t.digest.length : Int) = w
      · rw [if_pos hc]
        have h5 := rPair_ev t.key t.digest ⟨by omega, by omega⟩
        have hpl : (pairP t.key t.digest).length ≤ 1048576 := by
          have := byts_len t.key
          simp only [pairP, List.length_cons, List.length_append]
          omega
        have h6 := ref03_Of_ev w (pairP t.key t.digest) hw hpl
        have hl2 := hd (pairP t.key t.digest)
        generalize pairP t.key t.digest = pk at *
        generalize dg w pk = p at *
        try simp (maxSteps := 1000000) (disch := first | omega | (simp only [lens, List.length_map]; omega)) only [go_sem, ↓reduceIte, Nat.reduceSub, Nat.reduceAdd, Nat.reduceMul, Nat.reduceLeDiff, Nat.reduceLT, Nat.reduceEqDiff, Nat.reduceBEq, Int.reduceLE, Int.reduceLT, Int.reduceEq, Int.reduceNeg, Int.reduceAdd, Int.reduceSub, Int.reduceMul, Int.reduceToNat] at h6
        cases e1 : l.dig w with
        | none =>
          rw [e1] at h1
          generalize rgV w l = z1 at *
          cases e2 : r.dig w with
          | none =>
            rw [e2] at h2
            generalize rgV w r = z2 at *
            simp only [dgV, Option.isSome] at h1 h2 ⊢
            refine Ev_run t_ref04_Digest rfl rfl ?_
            simp (maxSteps := 1000000) (disch := first | omega | (simp only [lens, List.length_map]; omega)) only [go_sem, ↓reduceIte, Nat.reduceSub, Nat.reduceAdd, Nat.reduceMul, Nat.reduceLeDiff, Nat.reduceLT, Nat.reduceEqDiff, Nat.reduceBEq, Int.reduceLE, Int.reduceLT, Int.reduceEq, Int.reduceNeg, Int.reduceAdd, Int.reduceSub, Int.reduceMul, Int.reduceToNat, i_ref04_Digest, hk, h, h1, h2]
          | some y =>
            rw [e2, rgV_some e2] at h2
            simp only [dgV, Option.isSome] at h1 h2 ⊢
            refine Ev_run t_ref04_Digest rfl rfl ?_
            simp (maxSteps := 1000000) (disch := first | omega | (simp only [lens, List.length_map]; omega)) only [go_sem, ↓reduceIte, Nat.reduceSub, Nat.reduceAdd, Nat.reduceMul, Nat.reduceLeDiff, Nat.reduceLT, Nat.reduceEqDiff, Nat.reduceBEq, Int.reduceLE, Int.reduceLT, Int.reduceEq, Int.reduceNeg, Int.reduceAdd, Int.reduceSub, Int.reduceMul, Int.reduceToNat, i_ref04_Digest, hk, h, h1, h2]
        | some x =>
          have lx := dig_len w hw l hl x e1
          rw [e1, rgV_some e1] at h1
          cases e2 : r.dig w with
          | none =>
            rw [e2] at h2
            generalize rgV w r = z2 at *
            simp only [dgV, Option.isSome] at h1 h2 ⊢
            refine Ev_run t_ref04_Digest rfl rfl ?_
            simp (maxSteps := 1000000) (disch := first | omega | (simp only [lens, List.length_map]; omega)) only [go_sem, ↓reduceIte, Nat.reduceSub, Nat.reduceAdd, Nat.reduceMul, Nat.reduceLeDiff, Nat.reduceLT, Nat.reduceEqDiff, Nat.reduceBEq, Int.reduceLE, Int.reduceLT, Int.reduceEq, Int.reduceNeg, Int.reduceAdd, Int.reduceSub, Int.reduceMul, Int.reduceToNat, i_ref04_Digest, hk, h, h1, h2]
          | some y =>
            have ly := dig_len w hw r hr y e2
            rw [e2, rgV_some e2] at h2
            simp only [dgV, Option.isSome] at h1 h2 ⊢
            have h7 := rNode_ev x p y ⟨by omega, by omega, by omega⟩
            have h8 := ref03_Of_ev w (nodeP x p y) hw (by simp only [nodeP, List.length_cons, List.length_append]; omega)
            generalize nodeP x p y = nd at *
            generalize dg w nd = z at *
            try simp (maxSteps := 1000000) (disch := first | omega | (simp only [lens, List.length_map]; omega)) only [go_sem, ↓reduceIte, Nat.reduceSub, Nat.reduceAdd, Nat.reduceMul, Nat.reduceLeDiff, Nat.reduceLT, Nat.reduceEqDiff, Nat.reduceBEq, Int.reduceLE, Int.reduceLT, Int.reduceEq, Int.reduceNeg, Int.reduceAdd, Int.reduceSub, Int.reduceMul, Int.reduceToNat] at h8
            refine Ev_run t_ref04_Digest rfl rfl ?_
            simp (maxSteps := 1000000) (disch := first | omega | (simp only [lens, List.length_map]; omega)) only [go_sem, ↓reduceIte, Nat.reduceSub, Nat.reduceAdd, Nat.reduceMul, Nat.reduceLeDiff, Nat.reduceLT, Nat.reduceEqDiff, Nat.reduceBEq, Int.reduceLE, Int.reduceLT, Int.reduceEq, Int.reduceNeg, Int.reduceAdd, Int.reduceSub, Int.reduceMul, Int.reduceToNat, i_ref04_Digest, hk, h, h1, h2, h5, h6, h7, h8]
      · rw [if_neg hc]
        simp only [dgV, Option.isSome]
        refine Ev_run t_ref04_Digest rfl rfl ?_
        simp (maxSteps := 1000000) (disch := first | omega | (simp only [lens, List.length_map]; omega)) only [go_sem, ↓reduceIte, Nat.reduceSub, Nat.reduceAdd, Nat.reduceMul, Nat.reduceLeDiff, Nat.reduceLT, Nat.reduceEqDiff, Nat.reduceBEq, Int.reduceLE, Int.reduceLT, Int.reduceEq, Int.reduceNeg, Int.reduceAdd, Int.reduceSub, Int.reduceMul, Int.reduceToNat, i_ref04_Digest, hk, h]

end Go.Proofs.YtdngljdbgepaiaaGreatDoor
