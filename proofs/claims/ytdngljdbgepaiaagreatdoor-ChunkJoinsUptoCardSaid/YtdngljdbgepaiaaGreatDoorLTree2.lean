/-
  Trees: whether they are formed, and what is amiss.
-/
import Derived.Test.YtdngljdbgepaiaaGreatDoorLTree
import Derived.Test.YtdngljdbgepaiaaGreatDoorLCode0
set_option linter.unusedSimpArgs false
set_option linter.unusedVariables false
set_option maxRecDepth 200000
set_option maxHeartbeats 4000000
namespace Go.Proofs.YtdngljdbgepaiaaGreatDoor
open Go.Ev

def okT (t : T) : Prop := (t.kind = 0 ∧ t.key.length = 0 ∧ t.value.length = 0 ∧ t.digest.length = 0 ∧ t.kids.length = 0) ∨ (t.kind = 1 ∧ t.key.length ≤ 80 ∧ t.value.length ≤ 1024 ∧ t.digest.length = 0 ∧ t.kids.length = 2) ∨ (t.kind = 2 ∧ t.key.length ≤ 80 ∧ t.value.length = 0 ∧ t.kids.length = 2) ∨ (t.kind = 3 ∧ t.key.length = 0 ∧ t.value.length = 0 ∧ t.kids.length = 0)
instance (t : T) : Decidable (okT t) := by unfold okT; infer_instance
mutual
def T.formed : T → Bool
  | .mk k a b c l => decide (okT (.mk k a b c l)) && formedL l
def formedL : List T → Bool
  | [] => true
  | t :: l => t.formed && formedL l
end
theorem formed_eq (t : T) : t.formed = (decide (okT t) && formedL t.kids) := by cases t; simp only [T.formed]; rfl
theorem formed_no (t : T) (hs : t.size ≤ 1048576) : ∀ i : Nat, L_ref04_Formed_0 (s_ref04_Formed_K0 (.ptr 0 0) (i64 t.kids.length) (bo false) (i64 i) [some (oT t)]) = some (.exit 1, s_ref04_Formed_J1 (bo false) [none]) := fun i => by
  rw [L_ref04_Formed_0_eq]
  have hl := kids_len t
  by_cases h : i < t.kids.length
  · simp (maxSteps := 1000000) (disch := first | omega | (simp only [lens, List.length_map]; omega)) only [go_sem, ↓reduceIte, Nat.reduceSub, Nat.reduceAdd, Nat.reduceMul, Nat.reduceLeDiff, Nat.reduceLT, Nat.reduceEqDiff, Nat.reduceBEq, Int.reduceLE, Int.reduceLT, Int.reduceEq, Int.reduceNeg, Int.reduceAdd, Int.reduceSub, Int.reduceMul, Int.reduceToNat, i_ref04_Formed_b0]
  · simp (maxSteps := 1000000) (disch := first | omega | (simp only [lens, List.length_map]; omega)) only [go_sem, ↓reduceIte, Nat.reduceSub, Nat.reduceAdd, Nat.reduceMul, Nat.reduceLeDiff, Nat.reduceLT, Nat.reduceEqDiff, Nat.reduceBEq, Int.reduceLE, Int.reduceLT, Int.reduceEq, Int.reduceNeg, Int.reduceAdd, Int.reduceSub, Int.reduceMul, Int.reduceToNat, i_ref04_Formed_b0]
theorem formed_loop (t : T) (hs : t.size ≤ 1048576) (hk : ∀ k ∈ t.kids, Ev tab G0 n_ref04_Formed [avT k] [] = some ([bo k.formed], [])) : ∀ (n i : Nat), n + i = t.kids.length → L_ref04_Formed_0 (s_ref04_Formed_K0 (.ptr 0 0) (i64 t.kids.length) (bo true) (i64 i) [some (oT t)]) = some (.exit 1, s_ref04_Formed_J1 (bo (formedL (t.kids.drop i))) [none])
  | 0, i, h => by
    have hl := kids_len t
    rw [List.drop_of_length_le (by omega), L_ref04_Formed_0_eq]
    simp (maxSteps := 1000000) (disch := first | omega | (simp only [lens, List.length_map]; omega)) only [go_sem, ↓reduceIte, Nat.reduceSub, Nat.reduceAdd, Nat.reduceMul, Nat.reduceLeDiff, Nat.reduceLT, Nat.reduceEqDiff, Nat.reduceBEq, Int.reduceLE, Int.reduceLT, Int.reduceEq, Int.reduceNeg, Int.reduceAdd, Int.reduceSub, Int.reduceMul, Int.reduceToNat, i_ref04_Formed_b0, formedL]
  | n + 1, i, h => by
    have hl := kids_len t
    have ih := formed_loop t hs hk n (i + 1) (by omega)
    have h1 := hk _ (getD_mem' (d := .no) (i := i) (by omega))
    have h2 := formed_no t hs (i + 1)
    rw [drop_step (d := .no) (by omega), L_ref04_Formed_0_eq]
    try simp (maxSteps := 1000000) (disch := first | omega | (simp only [lens, List.length_map]; omega)) only [go_sem, ↓reduceIte, Nat.reduceSub, Nat.reduceAdd, Nat.reduceMul, Nat.reduceLeDiff, Nat.reduceLT, Nat.reduceEqDiff, Nat.reduceBEq, Int.reduceLE, Int.reduceLT, Int.reduceEq, Int.reduceNeg, Int.reduceAdd, Int.reduceSub, Int.reduceMul, Int.reduceToNat] at ih
    try simp (maxSteps := 1000000) (disch := first | omega | (simp only [lens, List.length_map]; omega)) only [go_sem, ↓reduceIte, Nat.reduceSub, Nat.reduceAdd, Nat.reduceMul, Nat.reduceLeDiff, Nat.reduceLT, Nat.reduceEqDiff, Nat.reduceBEq, Int.reduceLE, Int.reduceLT, Int.reduceEq, Int.reduceNeg, Int.reduceAdd, Int.reduceSub, Int.reduceMul, Int.reduceToNat] at h2
    generalize hd : t.kids.getD i .no = k at *
    cases hf : k.formed
    · rw [hf] at h1
      simp (maxSteps := 1000000) (disch := first | omega | (simp only [lens, List.length_map]; omega)) only [go_sem, ↓reduceIte, Nat.reduceSub, Nat.reduceAdd, Nat.reduceMul, Nat.reduceLeDiff, Nat.reduceLT, Nat.reduceEqDiff, Nat.reduceBEq, Int.reduceLE, Int.reduceLT, Int.reduceEq, Int.reduceNeg, Int.reduceAdd, Int.reduceSub, Int.reduceMul, Int.reduceToNat, i_ref04_Formed_b0, hd, h1, hf, h2, formedL, Bool.false_and]
    · rw [hf] at h1
      simp (maxSteps := 1000000) (disch := first | omega | (simp only [lens, List.length_map]; omega)) only [go_sem, ↓reduceIte, Nat.reduceSub, Nat.reduceAdd, Nat.reduceMul, Nat.reduceLeDiff, Nat.reduceLT, Nat.reduceEqDiff, Nat.reduceBEq, Int.reduceLE, Int.reduceLT, Int.reduceEq, Int.reduceNeg, Int.reduceAdd, Int.reduceSub, Int.reduceMul, Int.reduceToNat, i_ref04_Formed_b0, hd, h1, hf, ih, formedL, Bool.true_and]
theorem ref04_Formed_ev : ∀ (t : T), t.size ≤ 1048576 → Ev tab G0 n_ref04_Formed [avT t] [] = some ([bo t.formed], []) := T_ind fun t ih hs => by
  have hl := kids_len t
  have hz := size_eq t
  have e0 : ((0 : Nat) : Int) = 0 := rfl
  have hk : ∀ k ∈ t.kids, Ev tab G0 n_ref04_Formed [avT k] [] = some ([bo k.formed], []) := fun k hk => ih k hk (by have := size_kid hk; omega)
  have h0 := formed_loop t hs hk t.kids.length 0 (by omega)
  have h1 := formed_no t hs 0
  rw [List.drop_zero] at h0
  try simp (maxSteps := 1000000) (disch := first | omega | (simp only [lens, List.length_map]; omega)) only [go_sem, ↓reduceIte, Nat.reduceSub, Nat.reduceAdd, Nat.reduceMul, Nat.reduceLeDiff, Nat.reduceLT, Nat.reduceEqDiff, Nat.reduceBEq, Int.reduceLE, Int.reduceLT, Int.reduceEq, Int.reduceNeg, Int.reduceAdd, Int.reduceSub, Int.reduceMul, Int.reduceToNat, e0] at h0
  try simp (maxSteps := 1000000) (disch := first | omega | (simp only [lens, List.length_map]; omega)) only [go_sem, ↓reduceIte, Nat.reduceSub, Nat.reduceAdd, Nat.reduceMul, Nat.reduceLeDiff, Nat.reduceLT, Nat.reduceEqDiff, Nat.reduceBEq, Int.reduceLE, Int.reduceLT, Int.reduceEq, Int.reduceNeg, Int.reduceAdd, Int.reduceSub, Int.reduceMul, Int.reduceToNat, e0] at h1
  have hb : ∀ b : Bool, L_ref04_Formed_0 (s_ref04_Formed_K0 (.ptr 0 0) (i64 t.kids.length) (bo b) (i64 0) [some (oT t)]) = some (.exit 1, s_ref04_Formed_J1 (bo (b && formedL t.kids)) [none]) := fun b => by
    cases b
    · exact h1
    · exact h0
  clear h0 h1 hk ih
  refine Ev_run t_ref04_Formed rfl rfl ?_
  rw [formed_eq]
  generalize formedL t.kids = fk at *
  have key : ∀ x : Bool, x = decide (okT t) → (some ([bo (x && fk)], []) : Option (List AV × List Ev.Obj)) = some ([bo (decide (okT t) && fk)], []) := fun x hx => by rw [hx]
  have kf : ¬ okT t → (some ([bo false], []) : Option (List AV × List Ev.Obj)) = some ([bo (decide (okT t) && fk)], []) := fun hn => by rw [decide_eq_false hn]; rfl
  by_cases k0 : t.kind = 0
  · simp (maxSteps := 1000000) (disch := first | omega | (simp only [lens, List.length_map]; omega)) only [go_sem, ↓reduceIte, Nat.reduceSub, Nat.reduceAdd, Nat.reduceMul, Nat.reduceLeDiff, Nat.reduceLT, Nat.reduceEqDiff, Nat.reduceBEq, Int.reduceLE, Int.reduceLT, Int.reduceEq, Int.reduceNeg, Int.reduceAdd, Int.reduceSub, Int.reduceMul, Int.reduceToNat, i_ref04_Formed, hb, Bool.false_and]
    (repeat' split) <;> first | exact kf (by unfold okT; omega) | exact key _ (decide_eq_decide.mpr (by unfold okT; omega))
  · by_cases k1 : t.kind = 1
    · simp (maxSteps := 1000000) (disch := first | omega | (simp only [lens, List.length_map]; omega)) only [go_sem, ↓reduceIte, Nat.reduceSub, Nat.reduceAdd, Nat.reduceMul, Nat.reduceLeDiff, Nat.reduceLT, Nat.reduceEqDiff, Nat.reduceBEq, Int.reduceLE, Int.reduceLT, Int.reduceEq, Int.reduceNeg, Int.reduceAdd, Int.reduceSub, Int.reduceMul, Int.reduceToNat, i_ref04_Formed, hb, Bool.false_and]
      (repeat' split) <;> first | exact kf (by unfold okT; omega) | exact key _ (decide_eq_decide.mpr (by unfold okT; omega))
    · by_cases k2 : t.kind = 2
      · simp (maxSteps := 1000000) (disch := first | omega | (simp only [lens, List.length_map]; omega)) only [go_sem, ↓reduceIte, Nat.reduceSub, Nat.reduceAdd, Nat.reduceMul, Nat.reduceLeDiff, Nat.reduceLT, Nat.reduceEqDiff, Nat.reduceBEq, Int.reduceLE, Int.reduceLT, Int.reduceEq, Int.reduceNeg, Int.reduceAdd, Int.reduceSub, Int.reduceMul, Int.reduceToNat, i_ref04_Formed, hb, Bool.false_and]
        (repeat' split) <;> first | exact kf (by unfold okT; omega) | exact key _ (decide_eq_decide.mpr (by unfold okT; omega))
      · by_cases k3 : t.kind = 3
        · simp (maxSteps := 1000000) (disch := first | omega | (simp only [lens, List.length_map]; omega)) only [go_sem, ↓reduceIte, Nat.reduceSub, Nat.reduceAdd, Nat.reduceMul, Nat.reduceLeDiff, Nat.reduceLT, Nat.reduceEqDiff, Nat.reduceBEq, Int.reduceLE, Int.reduceLT, Int.reduceEq, Int.reduceNeg, Int.reduceAdd, Int.reduceSub, Int.reduceMul, Int.reduceToNat, i_ref04_Formed, hb, Bool.false_and]
          (repeat' split) <;> first | exact kf (by unfold okT; omega) | exact key _ (decide_eq_decide.mpr (by unfold okT; omega))
        · simp (maxSteps := 1000000) (disch := first | omega | (simp only [lens, List.length_map]; omega)) only [go_sem, ↓reduceIte, Nat.reduceSub, Nat.reduceAdd, Nat.reduceMul, Nat.reduceLeDiff, Nat.reduceLT, Nat.reduceEqDiff, Nat.reduceBEq, Int.reduceLE, Int.reduceLT, Int.reduceEq, Int.reduceNeg, Int.reduceAdd, Int.reduceSub, Int.reduceMul, Int.reduceToNat, i_ref04_Formed, hb, Bool.false_and]
          (repeat' split) <;> first | exact kf (by unfold okT; omega) | exact key _ (decide_eq_decide.mpr (by unfold okT; omega))

end Go.Proofs.YtdngljdbgepaiaaGreatDoor
