/-
  A writer.
-/
import Derived.Test.YtkfaahjcncpmhaaLCoder
import Derived.Test.YtkfaahjcncpmhaaLRef02
set_option linter.unusedSimpArgs false
set_option linter.unusedVariables false
set_option maxRecDepth 200000
set_option maxHeartbeats 4000000
namespace Go.Proofs.Ytkfaahjcncpmhaa
open Go.Ev

structure Wr where
  b : List UInt8
  bad : Bool
def badN (n : Int) : Bool := decide (n < 0 ∨ 1152921504606846976 < n)
def Wr.cnts (w : Wr) : List Int → Wr
  | [] => w
  | n :: r => if badN n = true then ⟨w.b, true⟩ else Wr.cnts ⟨w.b ++ num n, w.bad⟩ r
def Wr.byt (w : Wr) (x : List UInt8) (most : Int) : Wr := if w.bad = true ∨ most < x.length then ⟨w.b, true⟩ else ⟨w.b ++ byts x, false⟩
abbrev oWr (a : AV) (bad : Bool) : Ev.Obj := .var [a, bo bad]
abbrev rowB2 (l : List UInt8) : Ev.Obj := .row ty_uint8 1 true false (eB l)
/-- A writer as it is handed to a function. -/
def inW (w : Wr) : List Ev.Obj := match w.b with
  | [] => [oWr .nilsl w.bad]
  | x :: l => [oWr (.row 1 (l.length + 1)) w.bad, rowB2 (x :: l)]
theorem inW_nil {w : Wr} (h : w.b = []) : inW w = [oWr .nilsl w.bad] := by unfold inW; rw [h]
theorem inW_ne {w : Wr} (h : w.b ≠ []) : inW w = [oWr (.row 1 w.b.length) w.bad, rowB2 w.b] := by
  unfold inW
  cases hb : w.b with
  | nil => exact absurd hb h
  | cons x l => rfl
theorem num_ne (n : Int) : num n ≠ [] := by
  have := (num_len n).2
  intro h
  rw [h] at this
  simp at this
theorem num_emp (n : Int) : (eB (num n)).isEmpty = false := by
  cases h : num n with
  | nil => exact absurd h (num_ne n)
  | cons x l => rfl
theorem cnts_len (w : Wr) : ∀ l : List Int, (w.cnts l).b.length ≤ w.b.length + 9 * l.length := fun l => by
  induction l generalizing w with
  | nil => simp [Wr.cnts]
  | cons n r ih =>
    unfold Wr.cnts
    split
    · simp only; omega
    · have := ih ⟨w.b ++ num n, w.bad⟩
      have hn := (num_len n).1
      simp only [List.length_append, List.length_cons] at this ⊢
      omega
theorem cnts_ne (w : Wr) (h : w.b ≠ []) : ∀ l : List Int, (w.cnts l).b ≠ [] := fun l => by
  induction l generalizing w with
  | nil => exact h
  | cons n r ih =>
    unfold Wr.cnts
    split
    · exact h
    · exact ih ⟨w.b ++ num n, w.bad⟩ (fun x => num_ne n (List.append_eq_nil_iff.1 x).2)
theorem badN_lo {n : Int} (h : n < 0) : badN n = true := by unfold badN; rw [decide_eq_true_eq]; exact .inl h
theorem badN_hi {n : Int} (h : 1152921504606846976 < n) : badN n = true := by unfold badN; rw [decide_eq_true_eq]; exact .inr h
theorem badN_ok {n : Int} (h : 0 ≤ n ∧ n ≤ 1152921504606846976) : badN n = false := by unfold badN; rw [decide_eq_false_iff_not]; omega
theorem cnts_bad {w : Wr} {n : Int} {r : List Int} (h : badN n = true) : w.cnts (n :: r) = ⟨w.b, true⟩ := by
  conv => lhs; unfold Wr.cnts
  rw [if_pos h]
theorem cnts_ok {w : Wr} {n : Int} {r : List Int} (h : badN n = false) : w.cnts (n :: r) = Wr.cnts ⟨w.b ++ num n, w.bad⟩ r := by
  conv => lhs; unfold Wr.cnts
  rw [h, if_neg (by simp)]
theorem cnts_loopC (l : List Int) (hl : l.length ≤ 1048576) : ∀ (n i : Nat) (w : Wr), n + i = l.length → w.b ≠ [] → w.b.length + 9 * n ≤ 1073741824 → L_entry_writer_counts_0 (s_entry_writer_counts_K0 (.ptr 2 0) (.sl true (eI .i64 l)) (i64 l.length) (i64 i) [none, none, some (oWr (.row 3 w.b.length) w.bad), some (rowB2 w.b)]) = some ((if (l.drop i).any badN = true then .ret else .exit 0), s_entry_writer_counts_J0 [none, none, some (oWr (.row 3 (w.cnts (l.drop i)).b.length) (w.cnts (l.drop i)).bad), some (rowB2 (w.cnts (l.drop i)).b)])
  | 0, i, w, h, hne, hb => by
    rw [List.drop_of_length_le (by omega), L_entry_writer_counts_0_eq]
    simp only [List.any_nil, Wr.cnts, Bool.false_eq_true, if_false]
    simp (maxSteps := 1000000) (disch := first | omega | (simp only [lens, List.length_map]; omega)) only [go_sem, ↓reduceIte, Nat.reduceSub, Nat.reduceAdd, Nat.reduceMul, Nat.reduceLeDiff, Nat.reduceLT, Nat.reduceEqDiff, Nat.reduceBEq, Int.reduceLE, Int.reduceLT, Int.reduceEq, Int.reduceNeg, Int.reduceAdd, Int.reduceSub, Int.reduceMul, Int.reduceToNat, i_entry_writer_counts_b0]
  | n + 1, i, w, h, hne, hb => by
    rw [drop_step (d := 0) (by omega), L_entry_writer_counts_0_eq, List.any_cons]
    by_cases c1 : l.getD i 0 < 0
    · rw [cnts_bad (badN_lo c1), badN_lo c1, Bool.true_or, if_pos rfl]
      generalize hd : l.getD i 0 = x at *
      simp (maxSteps := 1000000) (disch := first | omega | (simp only [lens, List.length_map]; omega)) only [go_sem, ↓reduceIte, Nat.reduceSub, Nat.reduceAdd, Nat.reduceMul, Nat.reduceLeDiff, Nat.reduceLT, Nat.reduceEqDiff, Nat.reduceBEq, Int.reduceLE, Int.reduceLT, Int.reduceEq, Int.reduceNeg, Int.reduceAdd, Int.reduceSub, Int.reduceMul, Int.reduceToNat, i_entry_writer_counts_b0, hd, c1]
    · by_cases c2 : 1152921504606846976 < l.getD i 0
      · rw [cnts_bad (badN_hi c2), badN_hi c2, Bool.true_or, if_pos rfl]
        generalize hd : l.getD i 0 = x at *
        simp (maxSteps := 1000000) (disch := first | omega | (simp only [lens, List.length_map]; omega)) only [go_sem, ↓reduceIte, Nat.reduceSub, Nat.reduceAdd, Nat.reduceMul, Nat.reduceLeDiff, Nat.reduceLT, Nat.reduceEqDiff, Nat.reduceBEq, Int.reduceLE, Int.reduceLT, Int.reduceEq, Int.reduceNeg, Int.reduceAdd, Int.reduceSub, Int.reduceMul, Int.reduceToNat, i_entry_writer_counts_b0, hd, c1, c2]
      · have hk := badN_ok (n := l.getD i 0) (by omega)
        have hnl := num_len (l.getD i 0)
        have hne2 : w.b ++ num (l.getD i 0) ≠ [] := fun x => hne (List.append_eq_nil_iff.1 x).1
        have ih := cnts_loopC l hl n (i + 1) ⟨w.b ++ num (l.getD i 0), w.bad⟩ (by omega) hne2 (by simp only [List.length_append]; omega)
        have h1 := coder_Number_ev (l.getD i 0) (by omega)
        rw [cnts_ok hk, hk, Bool.false_or]
        have hla : (w.b ++ num (l.getD i 0)).length = w.b.length + (num (l.getD i 0)).length := List.length_append
        simp only [hla] at ih
        generalize Wr.cnts ⟨w.b ++ num (l.getD i 0), w.bad⟩ (l.drop (i + 1)) = w2 at *
        generalize hd : l.getD i 0 = x at *
        generalize hnx : num x = nx at *
        try simp (maxSteps := 1000000) (disch := first | omega | (simp only [lens, List.length_map]; omega)) only [go_sem, ↓reduceIte, Nat.reduceSub, Nat.reduceAdd, Nat.reduceMul, Nat.reduceLeDiff, Nat.reduceLT, Nat.reduceEqDiff, Nat.reduceBEq, Int.reduceLE, Int.reduceLT, Int.reduceEq, Int.reduceNeg, Int.reduceAdd, Int.reduceSub, Int.reduceMul, Int.reduceToNat] at ih
        simp (maxSteps := 1000000) (disch := first | omega | (simp only [lens, List.length_map]; omega)) only [go_sem, ↓reduceIte, Nat.reduceSub, Nat.reduceAdd, Nat.reduceMul, Nat.reduceLeDiff, Nat.reduceLT, Nat.reduceEqDiff, Nat.reduceBEq, Int.reduceLE, Int.reduceLT, Int.reduceEq, Int.reduceNeg, Int.reduceAdd, Int.reduceSub, Int.reduceMul, Int.reduceToNat, i_entry_writer_counts_b0, hd, c1, c2, h1, ih]

end Go.Proofs.Ytkfaahjcncpmhaa
