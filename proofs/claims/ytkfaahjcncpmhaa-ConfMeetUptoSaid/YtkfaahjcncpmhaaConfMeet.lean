/-
  Two that are most of the same members have one in common: the law.
-/
import Derived.Test.YtkfaahjcncpmhaaLConf2
set_option linter.unusedSimpArgs false
set_option linter.unusedVariables false
set_option maxRecDepth 200000
set_option maxHeartbeats 4000000
namespace Go.Proofs.Ytkfaahjcncpmhaa
open Go.Ev

def inAll (a b x y : List Int) (i : Int) : Bool := ((decide (i ∈ x) && decide (i ∈ y)) && decide (i ∈ a)) && decide (i ∈ b)
theorem meet_loop (a b x y : List Int) (ha : a.length ≤ 1048576) (hb : b.length ≤ 1048576) (hx : x.length ≤ 1048576) (hy : y.length ≤ 1048576) : ∀ (n : Nat) (i : Int), i + n = 7 → 0 ≤ i → (nums n i).any (inAll a b x y) = true → L_law17_ConfMeet_0 (s_law17_ConfMeet_K0 (.sl true (eI .i64 a)) (.sl true (eI .i64 b)) (.sl true (eI .i64 x)) (.sl true (eI .i64 y)) (bo true) (i64 (i + 1)) []) = some (.ret, s_law17_ConfMeet_R (bo true) [])
  | 0, i, h, hi, hn => by simp [nums] at hn
  | n + 1, i, h, hi, hn => by
    have h1 := conf_Has_ev a ha (i + 1)
    have h2 := conf_Has_ev b hb (i + 1)
    have h3 := conf_Has_ev x hx (i + 1)
    have h4 := conf_Has_ev y hy (i + 1)
    have ih := meet_loop a b x y ha hb hx hy n (i + 1) (by omega) (by omega)
    rw [nums, List.any_cons, inAll] at hn
    rw [L_law17_ConfMeet_0_eq]
    generalize decide (i + 1 ∈ a) = p at *
    generalize decide (i + 1 ∈ b) = q at *
    generalize decide (i + 1 ∈ x) = r at *
    generalize decide (i + 1 ∈ y) = s at *
    cases r
    · simp only [Bool.false_and, Bool.false_or] at hn
      have ih := ih hn
      try simp (maxSteps := 1000000) (disch := first | omega | (simp only [List.length_cons, List.length_nil, List.length_append, List.length_map, List.length_take, List.length_drop]; omega)) only [go_sem, ↓reduceIte, Nat.reduceSub, Nat.reduceAdd, Nat.reduceMul, Nat.reduceLeDiff, Nat.reduceLT, Nat.reduceEqDiff, Nat.reduceBEq, Int.reduceLE, Int.reduceLT, Int.reduceEq, Int.reduceNeg, Int.reduceAdd, Int.reduceSub, Int.reduceMul, Int.reduceToNat] at ih
      simp (maxSteps := 1000000) (disch := first | omega | (simp only [List.length_cons, List.length_nil, List.length_append, List.length_map, List.length_take, List.length_drop]; omega)) only [go_sem, ↓reduceIte, Nat.reduceSub, Nat.reduceAdd, Nat.reduceMul, Nat.reduceLeDiff, Nat.reduceLT, Nat.reduceEqDiff, Nat.reduceBEq, Int.reduceLE, Int.reduceLT, Int.reduceEq, Int.reduceNeg, Int.reduceAdd, Int.reduceSub, Int.reduceMul, Int.reduceToNat, i_law17_ConfMeet_b0, h3, ih]
    · cases s
      · simp only [Bool.false_and, Bool.and_false, Bool.false_or] at hn
        have ih := ih hn
        try simp (maxSteps := 1000000) (disch := first | omega | (simp only [List.length_cons, List.length_nil, List.length_append, List.length_map, List.length_take, List.length_drop]; omega)) only [go_sem, ↓reduceIte, Nat.reduceSub, Nat.reduceAdd, Nat.reduceMul, Nat.reduceLeDiff, Nat.reduceLT, Nat.reduceEqDiff, Nat.reduceBEq, Int.reduceLE, Int.reduceLT, Int.reduceEq, Int.reduceNeg, Int.reduceAdd, Int.reduceSub, Int.reduceMul, Int.reduceToNat] at ih
        simp (maxSteps := 1000000) (disch := first | omega | (simp only [List.length_cons, List.length_nil, List.length_append, List.length_map, List.length_take, List.length_drop]; omega)) only [go_sem, ↓reduceIte, Nat.reduceSub, Nat.reduceAdd, Nat.reduceMul, Nat.reduceLeDiff, Nat.reduceLT, Nat.reduceEqDiff, Nat.reduceBEq, Int.reduceLE, Int.reduceLT, Int.reduceEq, Int.reduceNeg, Int.reduceAdd, Int.reduceSub, Int.reduceMul, Int.reduceToNat, i_law17_ConfMeet_b0, h3, h4, ih]
      · cases p
        · simp only [Bool.false_and, Bool.and_false, Bool.false_or] at hn
          have ih := ih hn
          try simp (maxSteps := 1000000) (disch := first | omega | (simp only [List.length_cons, List.length_nil, List.length_append, List.length_map, List.length_take, List.length_drop]; omega)) only [go_sem, ↓reduceIte, Nat.reduceSub, Nat.reduceAdd, Nat.reduceMul, Nat.reduceLeDiff, Nat.reduceLT, Nat.reduceEqDiff, Nat.reduceBEq, Int.reduceLE, Int.reduceLT, Int.reduceEq, Int.reduceNeg, Int.reduceAdd, Int.reduceSub, Int.reduceMul, Int.reduceToNat] at ih
          simp (maxSteps := 1000000) (disch := first | omega | (simp only [List.length_cons, List.length_nil, List.length_append, List.length_map, List.length_take, List.length_drop]; omega)) only [go_sem, ↓reduceIte, Nat.reduceSub, Nat.reduceAdd, Nat.reduceMul, Nat.reduceLeDiff, Nat.reduceLT, Nat.reduceEqDiff, Nat.reduceBEq, Int.reduceLE, Int.reduceLT, Int.reduceEq, Int.reduceNeg, Int.reduceAdd, Int.reduceSub, Int.reduceMul, Int.reduceToNat, i_law17_ConfMeet_b0, h1, h3, h4, ih]
        · cases q
          · simp only [Bool.and_false, Bool.false_or] at hn
            have ih := ih hn
            try simp (maxSteps := 1000000) (disch := first | omega | (simp only [List.length_cons, List.length_nil, List.length_append, List.length_map, List.length_take, List.length_drop]; omega)) only [go_sem, ↓reduceIte, Nat.reduceSub, Nat.reduceAdd, Nat.reduceMul, Nat.reduceLeDiff, Nat.reduceLT, Nat.reduceEqDiff, Nat.reduceBEq, Int.reduceLE, Int.reduceLT, Int.reduceEq, Int.reduceNeg, Int.reduceAdd, Int.reduceSub, Int.reduceMul, Int.reduceToNat] at ih
            simp (maxSteps := 1000000) (disch := first | omega | (simp only [List.length_cons, List.length_nil, List.length_append, List.length_map, List.length_take, List.length_drop]; omega)) only [go_sem, ↓reduceIte, Nat.reduceSub, Nat.reduceAdd, Nat.reduceMul, Nat.reduceLeDiff, Nat.reduceLT, Nat.reduceEqDiff, Nat.reduceBEq, Int.reduceLE, Int.reduceLT, Int.reduceEq, Int.reduceNeg, Int.reduceAdd, Int.reduceSub, Int.reduceMul, Int.reduceToNat, i_law17_ConfMeet_b0, h1, h2, h3, h4, ih]
          · simp (maxSteps := 1000000) (disch := first | omega | (simp only [List.length_cons, List.length_nil, List.length_append, List.length_map, List.length_take, List.length_drop]; omega)) only [go_sem, ↓reduceIte, Nat.reduceSub, Nat.reduceAdd, Nat.reduceMul, Nat.reduceLeDiff, Nat.reduceLT, Nat.reduceEqDiff, Nat.reduceBEq, Int.reduceLE, Int.reduceLT, Int.reduceEq, Int.reduceNeg, Int.reduceAdd, Int.reduceSub, Int.reduceMul, Int.reduceToNat, i_law17_ConfMeet_b0, h1, h2, h3, h4]
theorem law_ConfMeet (a b x y : List Int) (ha : a.length ≤ 1048576) (hb : b.length ≤ 1048576) (hx : x.length ≤ 1048576) (hy : y.length ≤ 1048576) : ∃ outs, Ev tab G0 n_law17_ConfMeet [.sl true (eI .i64 a), .sl true (eI .i64 b), .sl true (eI .i64 x), .sl true (eI .i64 y)] [] = some ([bo true], outs) := by
  have h0 := up17_ev
  have h1 := conf_Step_ev a b ha hb
  have h2 := ref17_Same_ev a b ha hb
  have h3 := conf_Most_ev a x ha hx
  have h4 := conf_Most_ev b y hb hy
  have hl := meet_loop a b x y ha hb hx hy 7 0 (by omega) (by omega)
  have key : ((stepP a b || decide (a = b)) = true) → mostP a x = true → mostP b y = true → (nums 7 0).any (inAll a b x y) = true := fun k1 k2 k3 => by
    obtain ⟨i, i0, i1, i2, i3, i4⟩ := meet (a := a) (b := b) (x := x) (y := y) (by simpa using k1) k2 k3
    rw [List.any_eq_true]
    exact ⟨i, i0, by simp [inAll, i1, i2, i3, i4]⟩
  have e0 : (0 : Int) + 1 = 1 := rfl
  rw [e0] at hl
  generalize stepP a b = s at *
  generalize decide (a = b) = e at *
  generalize mostP a x = p at *
  generalize mostP b y = q at *
  refine ⟨[], Ev_run t_law17_ConfMeet rfl rfl ?_⟩
  by_cases c1 : 1000 < x.length
  · simp (maxSteps := 1000000) (disch := first | omega | (simp only [List.length_cons, List.length_nil, List.length_append, List.length_map, List.length_take, List.length_drop]; omega)) only [go_sem, ↓reduceIte, Nat.reduceSub, Nat.reduceAdd, Nat.reduceMul, Nat.reduceLeDiff, Nat.reduceLT, Nat.reduceEqDiff, Nat.reduceBEq, Int.reduceLE, Int.reduceLT, Int.reduceEq, Int.reduceNeg, Int.reduceAdd, Int.reduceSub, Int.reduceMul, Int.reduceToNat, i_law17_ConfMeet, h0]
  · by_cases c2 : 1000 < y.length
    · simp (maxSteps := 1000000) (disch := first | omega | (simp only [List.length_cons, List.length_nil, List.length_append, List.length_map, List.length_take, List.length_drop]; omega)) only [go_sem, ↓reduceIte, Nat.reduceSub, Nat.reduceAdd, Nat.reduceMul, Nat.reduceLeDiff, Nat.reduceLT, Nat.reduceEqDiff, Nat.reduceBEq, Int.reduceLE, Int.reduceLT, Int.reduceEq, Int.reduceNeg, Int.reduceAdd, Int.reduceSub, Int.reduceMul, Int.reduceToNat, i_law17_ConfMeet, h0]
    · cases s
      · cases e
        · simp (maxSteps := 1000000) (disch := first | omega | (simp only [List.length_cons, List.length_nil, List.length_append, List.length_map, List.length_take, List.length_drop]; omega)) only [go_sem, ↓reduceIte, Nat.reduceSub, Nat.reduceAdd, Nat.reduceMul, Nat.reduceLeDiff, Nat.reduceLT, Nat.reduceEqDiff, Nat.reduceBEq, Int.reduceLE, Int.reduceLT, Int.reduceEq, Int.reduceNeg, Int.reduceAdd, Int.reduceSub, Int.reduceMul, Int.reduceToNat, i_law17_ConfMeet, h0, h1, h2]
        · cases p
          · simp (maxSteps := 1000000) (disch := first | omega | (simp only [List.length_cons, List.length_nil, List.length_append, List.length_map, List.length_take, List.length_drop]; omega)) only [go_sem, ↓reduceIte, Nat.reduceSub, Nat.reduceAdd, Nat.reduceMul, Nat.reduceLeDiff, Nat.reduceLT, Nat.reduceEqDiff, Nat.reduceBEq, Int.reduceLE, Int.reduceLT, Int.reduceEq, Int.reduceNeg, Int.reduceAdd, Int.reduceSub, Int.reduceMul, Int.reduceToNat, i_law17_ConfMeet, h0, h1, h2, h3]
          · cases q
            · simp (maxSteps := 1000000) (disch := first | omega | (simp only [List.length_cons, List.length_nil, List.length_append, List.length_map, List.length_take, List.length_drop]; omega)) only [go_sem, ↓reduceIte, Nat.reduceSub, Nat.reduceAdd, Nat.reduceMul, Nat.reduceLeDiff, Nat.reduceLT, Nat.reduceEqDiff, Nat.reduceBEq, Int.reduceLE, Int.reduceLT, Int.reduceEq, Int.reduceNeg, Int.reduceAdd, Int.reduceSub, Int.reduceMul, Int.reduceToNat, i_law17_ConfMeet, h0, h1, h2, h3, h4]
            · have hl := hl (key rfl rfl rfl)
              simp (maxSteps := 1000000) (disch := first | omega | (simp only [List.length_cons, List.length_nil, List.length_append, List.length_map, List.length_take, List.length_drop]; omega)) only [go_sem, ↓reduceIte, Nat.reduceSub, Nat.reduceAdd, Nat.reduceMul, Nat.reduceLeDiff, Nat.reduceLT, Nat.reduceEqDiff, Nat.reduceBEq, Int.reduceLE, Int.reduceLT, Int.reduceEq, Int.reduceNeg, Int.reduceAdd, Int.reduceSub, Int.reduceMul, Int.reduceToNat, i_law17_ConfMeet, h0, h1, h2, h3, h4, hl]
      · cases p
        · simp (maxSteps := 1000000) (disch := first | omega | (simp only [List.length_cons, List.length_nil, List.length_append, List.length_map, List.length_take, List.length_drop]; omega)) only [go_sem, ↓reduceIte, Nat.reduceSub, Nat.reduceAdd, Nat.reduceMul, Nat.reduceLeDiff, Nat.reduceLT, Nat.reduceEqDiff, Nat.reduceBEq, Int.reduceLE, Int.reduceLT, Int.reduceEq, Int.reduceNeg, Int.reduceAdd, Int.reduceSub, Int.reduceMul, Int.reduceToNat, i_law17_ConfMeet, h0, h1, h3]
        · cases q
          · simp (maxSteps := 1000000) (disch := first | omega | (simp only [List.length_cons, List.length_nil, List.length_append, List.length_map, List.length_take, List.length_drop]; omega)) only [go_sem, ↓reduceIte, Nat.reduceSub, Nat.reduceAdd, Nat.reduceMul, Nat.reduceLeDiff, Nat.reduceLT, Nat.reduceEqDiff, Nat.reduceBEq, Int.reduceLE, Int.reduceLT, Int.reduceEq, Int.reduceNeg, Int.reduceAdd, Int.reduceSub, Int.reduceMul, Int.reduceToNat, i_law17_ConfMeet, h0, h1, h3, h4]
          · have hl := hl (key rfl rfl rfl)
            simp (maxSteps := 1000000) (disch := first | omega | (simp only [List.length_cons, List.length_nil, List.length_append, List.length_map, List.length_take, List.length_drop]; omega)) only [go_sem, ↓reduceIte, Nat.reduceSub, Nat.reduceAdd, Nat.reduceMul, Nat.reduceLeDiff, Nat.reduceLT, Nat.reduceEqDiff, Nat.reduceBEq, Int.reduceLE, Int.reduceLT, Int.reduceEq, Int.reduceNeg, Int.reduceAdd, Int.reduceSub, Int.reduceMul, Int.reduceToNat, i_law17_ConfMeet, h0, h1, h3, h4, hl]

end Go.Proofs.Ytkfaahjcncpmhaa
