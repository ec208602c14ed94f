/-
  A writer's entries, members, end.
-/
import Derived.Test.YtkfaahjcncpmhaaLWr2
set_option linter.unusedSimpArgs false
set_option linter.unusedVariables false
set_option maxRecDepth 200000
set_option maxHeartbeats 4000000
namespace Go.Proofs.Ytkfaahjcncpmhaa
open Go.Ev

abbrev Ent := Int × Int × List UInt8
abbrev ecells (e : Ent) : List C := [.sc (.int .i64 e.1), .sc (.int .i64 e.2.1), .sl (eB e.2.2)]
def eE (l : List Ent) : List (List C) := l.map ecells
theorem eE_nil : eE [] = [] := rfl
theorem eE_len {l : List Ent} : (eE l).length = l.length := by simp [eE]
theorem eE_sz {l : List Ent} : szOk 3 (eE l) = true := by simp [szOk, eE]
theorem eE_get {l : List Ent} {i : Nat} (h : i < l.length) : (eE l)[i]? = some [.sc (.int .i64 (l.getD i (0, 0, [])).1), .sc (.int .i64 (l.getD i (0, 0, [])).2.1), .sl (eB (l.getD i (0, 0, [])).2.2)] := by
  simp [eE, List.getD, h]
theorem eE_app {a b : List Ent} : eE a ++ eE b = eE (a ++ b) := by simp [eE]
theorem eE_one {a b : Int} {c : List UInt8} : [[C.sc (.int .i64 a), C.sc (.int .i64 b), C.sl (eB c)]] = eE [(a, b, c)] := rfl
theorem eE_emp {x : Ent} {l : List Ent} : (eE (x :: l)).isEmpty = false := rfl
attribute [go_sem] eE_len eE_sz eE_get
theorem eI_1 {a : Int} : [[C.sc (.int .i64 a)]] = eI .i64 [a] := rfl
theorem eI_2 {a b : Int} : [[C.sc (.int .i64 a)], [C.sc (.int .i64 b)]] = eI .i64 [a, b] := rfl
theorem eI_s1 {a : Int} : (eI .i64 [0]).set 0 [C.sc (.int .i64 a)] = eI .i64 [a] := rfl
theorem eI_s2 {a b : Int} : ((eI .i64 [0, 0]).set 0 [C.sc (.int .i64 a)]).set 1 [C.sc (.int .i64 b)] = eI .i64 [a, b] := rfl
def Wr.ents (w : Wr) : List Ent → Wr
  | [] => w
  | e :: r => Wr.ents ((w.cnts [e.1, e.2.1]).byt e.2.2 4096) r
def sumE : List Ent → Nat
  | [] => 0
  | e :: r => 40 + e.2.2.length + sumE r
theorem sumE_len : ∀ l : List Ent, 40 * l.length ≤ sumE l
  | [] => by simp [sumE]
  | e :: r => by
    have := sumE_len r
    simp only [sumE, List.length_cons]
    omega
theorem byt_len (w : Wr) (x : List UInt8) (most : Int) : (w.byt x most).b.length ≤ w.b.length + 9 + x.length := by
  have := byts_len x
  unfold Wr.byt
  split
  · simp only; omega
  · simp only [List.length_append]; omega
theorem ents_len (w : Wr) : ∀ l : List Ent, (w.ents l).b.length ≤ w.b.length + sumE l := fun l => by
  induction l generalizing w with
  | nil => simp [Wr.ents, sumE]
  | cons e r ih =>
    have h1 := cnts_len w [e.1, e.2.1]
    have h2 := byt_len (w.cnts [e.1, e.2.1]) e.2.2 4096
    have h3 := ih ((w.cnts [e.1, e.2.1]).byt e.2.2 4096)
    simp only [Wr.ents, sumE, List.length_cons, List.length_nil] at *
    omega
theorem ents_ne (w : Wr) (h : w.b ≠ []) : ∀ l : List Ent, (w.ents l).b ≠ [] := fun l => by
  induction l generalizing w with
  | nil => exact h
  | cons e r ih => exact ih _ (byt_ne _ _ _ (cnts_ne w h _))

theorem ents_loopB (l : List Ent) (hl : l.length ≤ 1048576) : ∀ (n i : Nat) (w : Wr), n + i = l.length → w.b ≠ [] → w.b.length + sumE (l.drop i) ≤ 1073741824 → L_entry_writer_entries_0 (s_entry_writer_entries_K0 (.ptr 4 0) (.sl true (eE l)) (i64 l.length) (i64 i) [some (rowB2 w.b), none, none, none, some (oWr (.row 0 w.b.length) w.bad)]) = some (.exit 0, s_entry_writer_entries_J0 [some (rowB2 (w.ents (l.drop i)).b), none, none, none, some (oWr (.row 0 (w.ents (l.drop i)).b.length) (w.ents (l.drop i)).bad)])
  | 0, i, w, h, hne, hb => by
    rw [List.drop_of_length_le (by omega), L_entry_writer_entries_0_eq]
    simp only [Wr.ents]
    simp (maxSteps := 1000000) (disch := first | omega | (simp only [lens, List.length_map]; omega)) only [go_sem, ↓reduceIte, Nat.reduceSub, Nat.reduceAdd, Nat.reduceMul, Nat.reduceLeDiff, Nat.reduceLT, Nat.reduceEqDiff, Nat.reduceBEq, Int.reduceLE, Int.reduceLT, Int.reduceEq, Int.reduceNeg, Int.reduceAdd, Int.reduceSub, Int.reduceMul, Int.reduceToNat, i_entry_writer_entries_b0]
  | n + 1, i, w, h, hne, hb => by
    rw [drop_step (d := (0, 0, [])) (by omega)] at hb ⊢
    rw [L_entry_writer_entries_0_eq]
    simp only [Wr.ents, sumE] at hb ⊢
    have hx1 := cnts_len w [(l.getD i (0, 0, [])).1, (l.getD i (0, 0, [])).2.1]
    simp only [List.length_cons, List.length_nil] at hx1
    have hx2 := byt_len (w.cnts [(l.getD i (0, 0, [])).1, (l.getD i (0, 0, [])).2.1]) (l.getD i (0, 0, [])).2.2 4096
    have hn1 := cnts_ne w hne [(l.getD i (0, 0, [])).1, (l.getD i (0, 0, [])).2.1]
    have hn2 := byt_ne _ (l.getD i (0, 0, [])).2.2 4096 hn1
    have h1 := entry_counts_ev w [(l.getD i (0, 0, [])).1, (l.getD i (0, 0, [])).2.1] (by simp) (by simp only [List.length_cons, List.length_nil]; omega)
    have h2 := entry_bytes_ev (w.cnts [(l.getD i (0, 0, [])).1, (l.getD i (0, 0, [])).2.1]) (l.getD i (0, 0, [])).2.2 4096 (by omega) (by omega) (by omega)
    have ih := ents_loopB l hl n (i + 1) _ (by omega) hn2 (by omega)
    rw [inW_ne hne, inW_ne hn1] at h1
    rw [inW_ne hn1, inW_ne hn2] at h2
    generalize (w.cnts [(l.getD i (0, 0, [])).1, (l.getD i (0, 0, [])).2.1]).byt (l.getD i (0, 0, [])).2.2 4096 = w2 at *
    generalize w.cnts [(l.getD i (0, 0, [])).1, (l.getD i (0, 0, [])).2.1] = w1 at *
    generalize w2.ents (l.drop (i + 1)) = w3 at *
    generalize hd : l.getD i (0, 0, []) = e at *
    try simp (maxSteps := 1000000) (disch := first | omega | (simp only [lens, List.length_map]; omega)) only [go_sem, ↓reduceIte, Nat.reduceSub, Nat.reduceAdd, Nat.reduceMul, Nat.reduceLeDiff, Nat.reduceLT, Nat.reduceEqDiff, Nat.reduceBEq, Int.reduceLE, Int.reduceLT, Int.reduceEq, Int.reduceNeg, Int.reduceAdd, Int.reduceSub, Int.reduceMul, Int.reduceToNat] at ih
    simp (maxSteps := 1000000) (disch := first | omega | (simp only [lens, List.length_map]; omega)) only [go_sem, ↓reduceIte, Nat.reduceSub, Nat.reduceAdd, Nat.reduceMul, Nat.reduceLeDiff, Nat.reduceLT, Nat.reduceEqDiff, Nat.reduceBEq, Int.reduceLE, Int.reduceLT, Int.reduceEq, Int.reduceNeg, Int.reduceAdd, Int.reduceSub, Int.reduceMul, Int.reduceToNat, i_entry_writer_entries_b0, hd, eI_2, eI_s2, h1, h2, ih]
theorem ents_loopC (l : List Ent) (hl : l.length ≤ 1048576) : ∀ (n i : Nat) (w : Wr), n + i = l.length → w.b ≠ [] → w.b.length + sumE (l.drop i) ≤ 1073741824 → L_entry_writer_entries_0 (s_entry_writer_entries_K0 (.ptr 4 0) (.sl true (eE l)) (i64 l.length) (i64 i) [none, none, none, none, some (oWr (.row 5 w.b.length) w.bad), some (rowB2 w.b)]) = some (.exit 0, s_entry_writer_entries_J0 [none, none, none, none, some (oWr (.row 5 (w.ents (l.drop i)).b.length) (w.ents (l.drop i)).bad), some (rowB2 (w.ents (l.drop i)).b)])
  | 0, i, w, h, hne, hb => by
    rw [List.drop_of_length_le (by omega), L_entry_writer_entries_0_eq]
    simp only [Wr.ents]
    simp (maxSteps := 1000000) (disch := first | omega | (simp only [lens, List.length_map]; omega)) only [go_sem, ↓reduceIte, Nat.reduceSub, Nat.reduceAdd, Nat.reduceMul, Nat.reduceLeDiff, Nat.reduceLT, Nat.reduceEqDiff, Nat.reduceBEq, Int.reduceLE, Int.reduceLT, Int.reduceEq, Int.reduceNeg, Int.reduceAdd, Int.reduceSub, Int.reduceMul, Int.reduceToNat, i_entry_writer_entries_b0]
  | n + 1, i, w, h, hne, hb => by
    rw [drop_step (d := (0, 0, [])) (by omega)] at hb ⊢
    rw [L_entry_writer_entries_0_eq]
    simp only [Wr.ents, sumE] at hb ⊢
    have hx1 := cnts_len w [(l.getD i (0, 0, [])).1, (l.getD i (0, 0, [])).2.1]
    simp only [List.length_cons, List.length_nil] at hx1
    have hx2 := byt_len (w.cnts [(l.getD i (0, 0, [])).1, (l.getD i (0, 0, [])).2.1]) (l.getD i (0, 0, [])).2.2 4096
    have hn1 := cnts_ne w hne [(l.getD i (0, 0, [])).1, (l.getD i (0, 0, [])).2.1]
    have hn2 := byt_ne _ (l.getD i (0, 0, [])).2.2 4096 hn1
    have h1 := entry_counts_ev w [(l.getD i (0, 0, [])).1, (l.getD i (0, 0, [])).2.1] (by simp) (by simp only [List.length_cons, List.length_nil]; omega)
    have h2 := entry_bytes_ev (w.cnts [(l.getD i (0, 0, [])).1, (l.getD i (0, 0, [])).2.1]) (l.getD i (0, 0, [])).2.2 4096 (by omega) (by omega) (by omega)
    have ih := ents_loopC l hl n (i + 1) _ (by omega) hn2 (by omega)
    rw [inW_ne hne, inW_ne hn1] at h1
    rw [inW_ne hn1, inW_ne hn2] at h2
    generalize (w.cnts [(l.getD i (0, 0, [])).1, (l.getD i (0, 0, [])).2.1]).byt (l.getD i (0, 0, [])).2.2 4096 = w2 at *
    generalize w.cnts [(l.getD i (0, 0, [])).1, (l.getD i (0, 0, [])).2.1] = w1 at *
    generalize w2.ents (l.drop (i + 1)) = w3 at *
    generalize hd : l.getD i (0, 0, []) = e at *
    try simp (maxSteps := 1000000) (disch := first | omega | (simp only [lens, List.length_map]; omega)) only [go_sem, ↓reduceIte, Nat.reduceSub, Nat.reduceAdd, Nat.reduceMul, Nat.reduceLeDiff, Nat.reduceLT, Nat.reduceEqDiff, Nat.reduceBEq, Int.reduceLE, Int.reduceLT, Int.reduceEq, Int.reduceNeg, Int.reduceAdd, Int.reduceSub, Int.reduceMul, Int.reduceToNat] at ih
    simp (maxSteps := 1000000) (disch := first | omega | (simp only [lens, List.length_map]; omega)) only [go_sem, ↓reduceIte, Nat.reduceSub, Nat.reduceAdd, Nat.reduceMul, Nat.reduceLeDiff, Nat.reduceLT, Nat.reduceEqDiff, Nat.reduceBEq, Int.reduceLE, Int.reduceLT, Int.reduceEq, Int.reduceNeg, Int.reduceAdd, Int.reduceSub, Int.reduceMul, Int.reduceToNat, i_entry_writer_entries_b0, hd, eI_2, eI_s2, h1, h2, ih]
theorem entsW_ne (w : Wr) (n : Nat) (hn : n ≤ 1048576) : (w.cnts [(n : Int)]).b ≠ [] := by
  rw [cnts_ok (badN_ok (by omega))]
  simp only [Wr.cnts]
  exact fun e => num_ne n (List.append_eq_nil_iff.1 e).2
theorem entry_entries_ev (w : Wr) (l : List Ent) (hl : l.length ≤ 1048576) (hb : w.b.length + 9 + sumE l ≤ 1073741824) : Ev tab G0 n_entry_writer_entries [.ptr 0 0, .sl true (eE l)] (inW w) = some ([], inW ((w.cnts [(l.length : Int)]).ents l)) := by
  have hx1 := cnts_len w [(l.length : Int)]
  simp only [List.length_cons, List.length_nil] at hx1
  have hn1 := entsW_ne w l.length hl
  have h1 := entry_counts_ev w [(l.length : Int)] (by simp) (by simp only [List.length_cons, List.length_nil]; omega)
  have hn2 := ents_ne _ hn1 l
  have e0 : ((0 : Nat) : Int) = 0 := rfl
  rw [inW_ne hn1] at h1
  rw [inW_ne hn2]
  refine Ev_run t_entry_writer_entries rfl rfl ?_
  by_cases hw : w.b = []
  · have ih := ents_loopB l hl l.length 0 _ (by omega) hn1 (by rw [List.drop_zero]; omega)
    rw [inW_nil hw] at h1 ⊢
    rw [e0, List.drop_zero] at ih
    generalize (w.cnts [(l.length : Int)]).ents l = w2 at *
    generalize w.cnts [(l.length : Int)] = w1 at *
    simp (maxSteps := 1000000) (disch := first | omega | (simp only [lens, List.length_map]; omega)) only [go_sem, ↓reduceIte, Nat.reduceSub, Nat.reduceAdd, Nat.reduceMul, Nat.reduceLeDiff, Nat.reduceLT, Nat.reduceEqDiff, Nat.reduceBEq, Int.reduceLE, Int.reduceLT, Int.reduceEq, Int.reduceNeg, Int.reduceAdd, Int.reduceSub, Int.reduceMul, Int.reduceToNat, i_entry_writer_entries, eI_1, eI_s1, h1, ih]
  · have ih := ents_loopC l hl l.length 0 _ (by omega) hn1 (by rw [List.drop_zero]; omega)
    rw [inW_ne hw] at h1 ⊢
    rw [e0, List.drop_zero] at ih
    generalize (w.cnts [(l.length : Int)]).ents l = w2 at *
    generalize w.cnts [(l.length : Int)] = w1 at *
    simp (maxSteps := 1000000) (disch := first | omega | (simp only [lens, List.length_map]; omega)) only [go_sem, ↓reduceIte, Nat.reduceSub, Nat.reduceAdd, Nat.reduceMul, Nat.reduceLeDiff, Nat.reduceLT, Nat.reduceEqDiff, Nat.reduceBEq, Int.reduceLE, Int.reduceLT, Int.reduceEq, Int.reduceNeg, Int.reduceAdd, Int.reduceSub, Int.reduceMul, Int.reduceToNat, i_entry_writer_entries, eI_1, eI_s1, h1, ih]
theorem entry_members_ev (w : Wr) (l : List Int) (hl : l.length ≤ 1048576) (hb : w.b.length + 9 + 9 * l.length ≤ 1073741824) : Ev tab G0 n_entry_writer_members [.ptr 0 0, .sl true (eI .i64 l)] (inW w) = some ([], inW ((w.cnts [(l.length : Int)]).cnts l)) := by
  have hx1 := cnts_len w [(l.length : Int)]
  simp only [List.length_cons, List.length_nil] at hx1
  have hn1 := entsW_ne w l.length hl
  have h1 := entry_counts_ev w [(l.length : Int)] (by simp) (by simp only [List.length_cons, List.length_nil]; omega)
  have h2 := entry_counts_ev (w.cnts [(l.length : Int)]) l hl (by omega)
  have hn2 := cnts_ne _ hn1 l
  rw [inW_ne hn1] at h1
  rw [inW_ne hn1, inW_ne hn2] at h2
  rw [inW_ne hn2]
  refine Ev_run t_entry_writer_members rfl rfl ?_
  generalize (w.cnts [(l.length : Int)]).cnts l = w2 at *
  generalize w.cnts [(l.length : Int)] = w1 at *
  by_cases hw : w.b = []
  · rw [inW_nil hw] at h1 ⊢
    simp (maxSteps := 1000000) (disch := first | omega | (simp only [lens, List.length_map]; omega)) only [go_sem, ↓reduceIte, Nat.reduceSub, Nat.reduceAdd, Nat.reduceMul, Nat.reduceLeDiff, Nat.reduceLT, Nat.reduceEqDiff, Nat.reduceBEq, Int.reduceLE, Int.reduceLT, Int.reduceEq, Int.reduceNeg, Int.reduceAdd, Int.reduceSub, Int.reduceMul, Int.reduceToNat, i_entry_writer_members, eI_1, eI_s1, h1, h2]
  · rw [inW_ne hw] at h1 ⊢
    simp (maxSteps := 1000000) (disch := first | omega | (simp only [lens, List.length_map]; omega)) only [go_sem, ↓reduceIte, Nat.reduceSub, Nat.reduceAdd, Nat.reduceMul, Nat.reduceLeDiff, Nat.reduceLT, Nat.reduceEqDiff, Nat.reduceBEq, Int.reduceLE, Int.reduceLT, Int.reduceEq, Int.reduceNeg, Int.reduceAdd, Int.reduceSub, Int.reduceMul, Int.reduceToNat, i_entry_writer_members, eI_1, eI_s1, h1, h2]
/-- What was written, or what is amiss. -/
def Wr.endC (w : Wr) : Int := if w.bad = true then 1 else if 1048576 < w.b.length then 2 else 0
def Wr.endB (w : Wr) : List UInt8 := if w.endC = 0 then w.b else []
theorem endC_cases (w : Wr) : w.endC = 0 ∨ w.endC = 1 ∨ w.endC = 2 := by
  unfold Wr.endC
  split
  · exact .inr (.inl rfl)
  · split
    · exact .inr (.inr rfl)
    · exact .inl rfl
end Go.Proofs.Ytkfaahjcncpmhaa
