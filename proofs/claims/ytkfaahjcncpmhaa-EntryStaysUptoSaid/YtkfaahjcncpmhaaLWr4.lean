/-
  The document's writer.
-/
import Derived.Test.YtkfaahjcncpmhaaLWr3
set_option linter.unusedSimpArgs false
set_option linter.unusedVariables false
set_option maxRecDepth 200000
set_option maxHeartbeats 4000000
namespace Go.Proofs.Ytkfaahjcncpmhaa
open Go.Ev

def Wr.rbyt (w : Wr) (x : List UInt8) (most : Int) : Wr := if most < x.length then ⟨w.b, true⟩ else ⟨w.b ++ byts x, w.bad⟩
def Wr.rmem (w : Wr) : List Int → Wr
  | [] => w
  | n :: r => Wr.rmem (w.cnts [n]) r
def Wr.rent1 (w : Wr) (e : Ent) : Wr := ((w.cnts [e.1]).cnts [e.2.1]).rbyt e.2.2 4096
def Wr.rents (w : Wr) : List Ent → Wr
  | [] => w
  | e :: r => Wr.rents (w.rent1 e) r
theorem cnt1_bad {w : Wr} {n : Int} (h : badN n = true) : w.cnts [n] = ⟨w.b, true⟩ := cnts_bad h
theorem cnt1_ok {w : Wr} {n : Int} (h : badN n = false) : w.cnts [n] = ⟨w.b ++ num n, w.bad⟩ := by rw [cnts_ok h]; rfl
theorem rbyt_ne (w : Wr) (x : List UInt8) (most : Int) (h : w.b ≠ []) : (w.rbyt x most).b ≠ [] := by
  unfold Wr.rbyt
  split
  · exact h
  · exact fun e => h (List.append_eq_nil_iff.1 e).1
theorem rbyt_len (w : Wr) (x : List UInt8) (most : Int) : (w.rbyt x most).b.length ≤ w.b.length + 9 + x.length := by
  have := byts_len x
  unfold Wr.rbyt
  split
  · simp only; omega
  · simp only [List.length_append]; omega
theorem cnt1_len (w : Wr) (n : Int) : (w.cnts [n]).b.length ≤ w.b.length + 9 := by
  have := cnts_len w [n]
  simpa using this
theorem rmem_len (w : Wr) : ∀ l : List Int, (w.rmem l).b.length ≤ w.b.length + 9 * l.length := fun l => by
  induction l generalizing w with
  | nil => simp [Wr.rmem]
  | cons n r ih =>
    have h1 := cnt1_len w n
    have h2 := ih (w.cnts [n])
    simp only [Wr.rmem, List.length_cons] at *
    omega
theorem rmem_ne (w : Wr) (h : w.b ≠ []) : ∀ l : List Int, (w.rmem l).b ≠ [] := fun l => by
  induction l generalizing w with
  | nil => exact h
  | cons n r ih => exact ih _ (cnts_ne w h _)
theorem rent1_ne (w : Wr) (h : w.b ≠ []) (e : Ent) : (w.rent1 e).b ≠ [] := rbyt_ne _ _ _ (cnts_ne _ (cnts_ne w h _) _)
theorem rent1_len (w : Wr) (e : Ent) : (w.rent1 e).b.length ≤ w.b.length + 27 + e.2.2.length := by
  have h1 := cnt1_len w e.1
  have h2 := cnt1_len (w.cnts [e.1]) e.2.1
  have h3 := rbyt_len ((w.cnts [e.1]).cnts [e.2.1]) e.2.2 4096
  unfold Wr.rent1
  omega
theorem rents_len (w : Wr) : ∀ l : List Ent, (w.rents l).b.length ≤ w.b.length + sumE l := fun l => by
  induction l generalizing w with
  | nil => simp [Wr.rents, sumE]
  | cons e r ih =>
    have h1 := rent1_len w e
    have h3 := ih (w.rent1 e)
    simp only [Wr.rents, sumE] at *
    omega
theorem rents_ne (w : Wr) (h : w.b ≠ []) : ∀ l : List Ent, (w.rents l).b ≠ [] := fun l => by
  induction l generalizing w with
  | nil => exact h
  | cons e r ih => exact ih _ (rent1_ne w h e)
theorem ref14_count_ev (w : Wr) (n : Int) (hb : w.b.length ≤ 1073741824) : Ev tab G0 n_ref14_Writer_count [.ptr 0 0, i64 n] (inW w) = some ([], inW (w.cnts [n])) := by
  obtain ⟨b, bad⟩ := w
  simp only at hb
  by_cases c1 : n < 0
  · rw [cnt1_bad (badN_lo c1)]
    refine Ev_run t_ref14_Writer_count rfl rfl ?_
    by_cases hw : b = []
    · subst hw
      rw [inW_nil rfl, inW_nil rfl]
      simp (maxSteps := 1000000) (disch := first | omega | (simp only [lens, List.length_map]; omega)) only [go_sem, ↓reduceIte, Nat.reduceSub, Nat.reduceAdd, Nat.reduceMul, Nat.reduceLeDiff, Nat.reduceLT, Nat.reduceEqDiff, Nat.reduceBEq, Int.reduceLE, Int.reduceLT, Int.reduceEq, Int.reduceNeg, Int.reduceAdd, Int.reduceSub, Int.reduceMul, Int.reduceToNat, i_ref14_Writer_count, c1]
    · rw [inW_ne hw, inW_ne hw]
      simp (maxSteps := 1000000) (disch := first | omega | (simp only [lens, List.length_map]; omega)) only [go_sem, ↓reduceIte, Nat.reduceSub, Nat.reduceAdd, Nat.reduceMul, Nat.reduceLeDiff, Nat.reduceLT, Nat.reduceEqDiff, Nat.reduceBEq, Int.reduceLE, Int.reduceLT, Int.reduceEq, Int.reduceNeg, Int.reduceAdd, Int.reduceSub, Int.reduceMul, Int.reduceToNat, i_ref14_Writer_count, c1]
  · by_cases c2 : 1152921504606846976 < n
    · rw [cnt1_bad (badN_hi c2)]
      refine Ev_run t_ref14_Writer_count rfl rfl ?_
      by_cases hw : b = []
      · subst hw
        rw [inW_nil rfl, inW_nil rfl]
        simp (maxSteps := 1000000) (disch := first | omega | (simp only [lens, List.length_map]; omega)) only [go_sem, ↓reduceIte, Nat.reduceSub, Nat.reduceAdd, Nat.reduceMul, Nat.reduceLeDiff, Nat.reduceLT, Nat.reduceEqDiff, Nat.reduceBEq, Int.reduceLE, Int.reduceLT, Int.reduceEq, Int.reduceNeg, Int.reduceAdd, Int.reduceSub, Int.reduceMul, Int.reduceToNat, i_ref14_Writer_count, c1, c2]
      · rw [inW_ne hw, inW_ne hw]
        simp (maxSteps := 1000000) (disch := first | omega | (simp only [lens, List.length_map]; omega)) only [go_sem, ↓reduceIte, Nat.reduceSub, Nat.reduceAdd, Nat.reduceMul, Nat.reduceLeDiff, Nat.reduceLT, Nat.reduceEqDiff, Nat.reduceBEq, Int.reduceLE, Int.reduceLT, Int.reduceEq, Int.reduceNeg, Int.reduceAdd, Int.reduceSub, Int.reduceMul, Int.reduceToNat, i_ref14_Writer_count, c1, c2]
    · have hk := badN_ok (n := n) (by omega)
      have hnl := num_len n
      have he := num_emp n
      have hne := num_ne n
      have h1 := ref02_Number_ev n (by omega)
      rw [cnt1_ok hk]
      refine Ev_run t_ref14_Writer_count rfl rfl ?_
      by_cases hw : b = []
      · subst hw
        simp only [List.nil_append]
        rw [inW_nil rfl, inW_ne hne]
        generalize num n = nx at *
        simp (maxSteps := 1000000) (disch := first | omega | (simp only [lens, List.length_map]; omega)) only [go_sem, ↓reduceIte, Nat.reduceSub, Nat.reduceAdd, Nat.reduceMul, Nat.reduceLeDiff, Nat.reduceLT, Nat.reduceEqDiff, Nat.reduceBEq, Int.reduceLE, Int.reduceLT, Int.reduceEq, Int.reduceNeg, Int.reduceAdd, Int.reduceSub, Int.reduceMul, Int.reduceToNat, i_ref14_Writer_count, c1, c2, h1, he]
      · rw [inW_ne hw, inW_ne (fun e => hw (List.append_eq_nil_iff.1 e).1)]
        have hla : (b ++ num n).length = b.length + (num n).length := List.length_append
        simp only [hla]
        generalize num n = nx at *
        simp (maxSteps := 1000000) (disch := first | omega | (simp only [lens, List.length_map]; omega)) only [go_sem, ↓reduceIte, Nat.reduceSub, Nat.reduceAdd, Nat.reduceMul, Nat.reduceLeDiff, Nat.reduceLT, Nat.reduceEqDiff, Nat.reduceBEq, Int.reduceLE, Int.reduceLT, Int.reduceEq, Int.reduceNeg, Int.reduceAdd, Int.reduceSub, Int.reduceMul, Int.reduceToNat, i_ref14_Writer_count, c1, c2, h1, he]
theorem ref14_bytes_ev (w : Wr) (x : List UInt8) (most : Int) (hx : x.length ≤ 1073741824) (hm : -9223372036854775808 ≤ most ∧ most < 9223372036854775808) (hb : w.b.length + x.length ≤ 1073741824) : Ev tab G0 n_ref14_Writer_bytes [.ptr 0 0, .sl true (eB x), i64 most] (inW w) = some ([], inW (w.rbyt x most)) := by
  have h1 := ref02_Bytes_ev x hx
  have hne := byts_ne x
  have he := emp_ne hne
  have hbl := byts_len x
  obtain ⟨b, bad⟩ := w
  unfold Wr.rbyt
  simp only at hb ⊢
  refine Ev_run t_ref14_Writer_bytes rfl rfl ?_
  by_cases hw : b = []
  · subst hw
    rw [inW_nil rfl]
    by_cases hc : most < x.length
    · rw [if_pos hc, inW_nil rfl]
      simp (maxSteps := 1000000) (disch := first | omega | (simp only [lens, List.length_map]; omega)) only [go_sem, ↓reduceIte, Nat.reduceSub, Nat.reduceAdd, Nat.reduceMul, Nat.reduceLeDiff, Nat.reduceLT, Nat.reduceEqDiff, Nat.reduceBEq, Int.reduceLE, Int.reduceLT, Int.reduceEq, Int.reduceNeg, Int.reduceAdd, Int.reduceSub, Int.reduceMul, Int.reduceToNat, i_ref14_Writer_bytes, hc]
    · rw [if_neg hc]
      simp only [List.nil_append]
      rw [inW_ne hne]
      generalize byts x = y at *
      simp (maxSteps := 1000000) (disch := first | omega | (simp only [lens, List.length_map]; omega)) only [go_sem, ↓reduceIte, Nat.reduceSub, Nat.reduceAdd, Nat.reduceMul, Nat.reduceLeDiff, Nat.reduceLT, Nat.reduceEqDiff, Nat.reduceBEq, Int.reduceLE, Int.reduceLT, Int.reduceEq, Int.reduceNeg, Int.reduceAdd, Int.reduceSub, Int.reduceMul, Int.reduceToNat, i_ref14_Writer_bytes, hc, h1, he]
  · rw [inW_ne hw]
    by_cases hc : most < x.length
    · rw [if_pos hc, inW_ne hw]
      simp (maxSteps := 1000000) (disch := first | omega | (simp only [lens, List.length_map]; omega)) only [go_sem, ↓reduceIte, Nat.reduceSub, Nat.reduceAdd, Nat.reduceMul, Nat.reduceLeDiff, Nat.reduceLT, Nat.reduceEqDiff, Nat.reduceBEq, Int.reduceLE, Int.reduceLT, Int.reduceEq, Int.reduceNeg, Int.reduceAdd, Int.reduceSub, Int.reduceMul, Int.reduceToNat, i_ref14_Writer_bytes, hc]
    · rw [if_neg hc, inW_ne (fun e => hw (List.append_eq_nil_iff.1 e).1)]
      have hla : (b ++ byts x).length = b.length + (byts x).length := List.length_append
      simp only [hla]
      generalize byts x = y at *
      simp (maxSteps := 1000000) (disch := first | omega | (simp only [lens, List.length_map]; omega)) only [go_sem, ↓reduceIte, Nat.reduceSub, Nat.reduceAdd, Nat.reduceMul, Nat.reduceLeDiff, Nat.reduceLT, Nat.reduceEqDiff, Nat.reduceBEq, Int.reduceLE, Int.reduceLT, Int.reduceEq, Int.reduceNeg, Int.reduceAdd, Int.reduceSub, Int.reduceMul, Int.reduceToNat, i_ref14_Writer_bytes, hc, h1]

theorem rmem_loopB (l : List Int) (hl : l.length ≤ 1048576) : ∀ (n i : Nat) (w : Wr), n + i = l.length → w.b ≠ [] → w.b.length + 9 * n ≤ 1073741824 → L_ref14_Writer_members_0 (s_ref14_Writer_members_K0 (.ptr 2 0) (.sl true (eI .i64 l)) (i64 i) [some (rowB2 w.b), none, some (oWr (.row 0 w.b.length) w.bad)]) = some (.exit 0, s_ref14_Writer_members_J0 [some (rowB2 (w.rmem (l.drop i)).b), none, some (oWr (.row 0 (w.rmem (l.drop i)).b.length) (w.rmem (l.drop i)).bad)])
  | 0, i, w, h, hne, hb => by
    rw [List.drop_of_length_le (by omega), L_ref14_Writer_members_0_eq]
    simp only [Wr.rmem]
    simp (maxSteps := 1000000) (disch := first | omega | (simp only [lens, List.length_map]; omega)) only [go_sem, ↓reduceIte, Nat.reduceSub, Nat.reduceAdd, Nat.reduceMul, Nat.reduceLeDiff, Nat.reduceLT, Nat.reduceEqDiff, Nat.reduceBEq, Int.reduceLE, Int.reduceLT, Int.reduceEq, Int.reduceNeg, Int.reduceAdd, Int.reduceSub, Int.reduceMul, Int.reduceToNat, i_ref14_Writer_members_b0]
  | n + 1, i, w, h, hne, hb => by
    rw [drop_step (d := 0) (by omega), L_ref14_Writer_members_0_eq]
    simp only [Wr.rmem]
    have hx1 := cnt1_len w (l.getD i 0)
    have hn1 := cnts_ne w hne [l.getD i 0]
    have h1 := ref14_count_ev w (l.getD i 0) (by omega)
    have ih := rmem_loopB l hl n (i + 1) _ (by omega) hn1 (by omega)
    rw [inW_ne hne, inW_ne hn1] at h1
    generalize w.cnts [l.getD i 0] = w1 at *
    generalize w1.rmem (l.drop (i + 1)) = w3 at *
    generalize hd : l.getD i 0 = e at *
    try simp (maxSteps := 1000000) (disch := first | omega | (simp only [lens, List.length_map]; omega)) only [go_sem, ↓reduceIte, Nat.reduceSub, Nat.reduceAdd, Nat.reduceMul, Nat.reduceLeDiff, Nat.reduceLT, Nat.reduceEqDiff, Nat.reduceBEq, Int.reduceLE, Int.reduceLT, Int.reduceEq, Int.reduceNeg, Int.reduceAdd, Int.reduceSub, Int.reduceMul, Int.reduceToNat] at ih
    simp (maxSteps := 1000000) (disch := first | omega | (simp only [lens, List.length_map]; omega)) only [go_sem, ↓reduceIte, Nat.reduceSub, Nat.reduceAdd, Nat.reduceMul, Nat.reduceLeDiff, Nat.reduceLT, Nat.reduceEqDiff, Nat.reduceBEq, Int.reduceLE, Int.reduceLT, Int.reduceEq, Int.reduceNeg, Int.reduceAdd, Int.reduceSub, Int.reduceMul, Int.reduceToNat, i_ref14_Writer_members_b0, hd, h1, ih]
theorem rmem_loopC (l : List Int) (hl : l.length ≤ 1048576) : ∀ (n i : Nat) (w : Wr), n + i = l.length → w.b ≠ [] → w.b.length + 9 * n ≤ 1073741824 → L_ref14_Writer_members_0 (s_ref14_Writer_members_K0 (.ptr 2 0) (.sl true (eI .i64 l)) (i64 i) [none, none, some (oWr (.row 3 w.b.length) w.bad), some (rowB2 w.b)]) = some (.exit 0, s_ref14_Writer_members_J0 [none, none, some (oWr (.row 3 (w.rmem (l.drop i)).b.length) (w.rmem (l.drop i)).bad), some (rowB2 (w.rmem (l.drop i)).b)])
  | 0, i, w, h, hne, hb => by
    rw [List.drop_of_length_le (by omega), L_ref14_Writer_members_0_eq]
    simp only [Wr.rmem]
    simp (maxSteps := 1000000) (disch := first | omega | (simp only [lens, List.length_map]; omega)) only [go_sem, ↓reduceIte, Nat.reduceSub, Nat.reduceAdd, Nat.reduceMul, Nat.reduceLeDiff, Nat.reduceLT, Nat.reduceEqDiff, Nat.reduceBEq, Int.reduceLE, Int.reduceLT, Int.reduceEq, Int.reduceNeg, Int.reduceAdd, Int.reduceSub, Int.reduceMul, Int.reduceToNat, i_ref14_Writer_members_b0]
  | n + 1, i, w, h, hne, hb => by
    rw [drop_step (d := 0) (by omega), L_ref14_Writer_members_0_eq]
    simp only [Wr.rmem]
    have hx1 := cnt1_len w (l.getD i 0)
    have hn1 := cnts_ne w hne [l.getD i 0]
    have h1 := ref14_count_ev w (l.getD i 0) (by omega)
    have ih := rmem_loopC l hl n (i + 1) _ (by omega) hn1 (by omega)
    rw [inW_ne hne, inW_ne hn1] at h1
    generalize w.cnts [l.getD i 0] = w1 at *
    generalize w1.rmem (l.drop (i + 1)) = w3 at *
    generalize hd : l.getD i 0 = e at *
    try simp (maxSteps := 1000000) (disch := first | omega | (simp only [lens, List.length_map]; omega)) only [go_sem, ↓reduceIte, Nat.reduceSub, Nat.reduceAdd, Nat.reduceMul, Nat.reduceLeDiff, Nat.reduceLT, Nat.reduceEqDiff, Nat.reduceBEq, Int.reduceLE, Int.reduceLT, Int.reduceEq, Int.reduceNeg, Int.reduceAdd, Int.reduceSub, Int.reduceMul, Int.reduceToNat] at ih
    simp (maxSteps := 1000000) (disch := first | omega | (simp only [lens, List.length_map]; omega)) only [go_sem, ↓reduceIte, Nat.reduceSub, Nat.reduceAdd, Nat.reduceMul, Nat.reduceLeDiff, Nat.reduceLT, Nat.reduceEqDiff, Nat.reduceBEq, Int.reduceLE, Int.reduceLT, Int.reduceEq, Int.reduceNeg, Int.reduceAdd, Int.reduceSub, Int.reduceMul, Int.reduceToNat, i_ref14_Writer_members_b0, hd, h1, ih]
theorem rents_loopB (l : List Ent) (hl : l.length ≤ 1048576) : ∀ (n i : Nat) (w : Wr), n + i = l.length → w.b ≠ [] → w.b.length + sumE (l.drop i) ≤ 1073741824 → L_ref14_Writer_entries_0 (s_ref14_Writer_entries_K0 (.ptr 4 0) (.sl true (eE l)) (i64 i) [some (rowB2 w.b), none, none, none, some (oWr (.row 0 w.b.length) w.bad)]) = some (.exit 0, s_ref14_Writer_entries_J0 [some (rowB2 (w.rents (l.drop i)).b), none, none, none, some (oWr (.row 0 (w.rents (l.drop i)).b.length) (w.rents (l.drop i)).bad)])
  | 0, i, w, h, hne, hb => by
    rw [List.drop_of_length_le (by omega), L_ref14_Writer_entries_0_eq]
    simp only [Wr.rents]
    simp (maxSteps := 1000000) (disch := first | omega | (simp only [lens, List.length_map]; omega)) only [go_sem, ↓reduceIte, Nat.reduceSub, Nat.reduceAdd, Nat.reduceMul, Nat.reduceLeDiff, Nat.reduceLT, Nat.reduceEqDiff, Nat.reduceBEq, Int.reduceLE, Int.reduceLT, Int.reduceEq, Int.reduceNeg, Int.reduceAdd, Int.reduceSub, Int.reduceMul, Int.reduceToNat, i_ref14_Writer_entries_b0]
  | n + 1, i, w, h, hne, hb => by
    rw [drop_step (d := (0, 0, [])) (by omega)] at hb ⊢
    rw [L_ref14_Writer_entries_0_eq]
    simp only [Wr.rents, sumE] at hb ⊢
    have hx0 := rent1_len w (l.getD i (0, 0, []))
    unfold Wr.rent1 at hx0 ⊢
    have hx1 := cnt1_len w (l.getD i (0, 0, [])).1
    have hx2 := cnt1_len (w.cnts [(l.getD i (0, 0, [])).1]) (l.getD i (0, 0, [])).2.1
    have hn1 := cnts_ne w hne [(l.getD i (0, 0, [])).1]
    have hn2 := cnts_ne _ hn1 [(l.getD i (0, 0, [])).2.1]
    have hn3 := rbyt_ne _ (l.getD i (0, 0, [])).2.2 4096 hn2
    have h1 := ref14_count_ev w (l.getD i (0, 0, [])).1 (by omega)
    have h2 := ref14_count_ev (w.cnts [(l.getD i (0, 0, [])).1]) (l.getD i (0, 0, [])).2.1 (by omega)
    have h3 := ref14_bytes_ev ((w.cnts [(l.getD i (0, 0, [])).1]).cnts [(l.getD i (0, 0, [])).2.1]) (l.getD i (0, 0, [])).2.2 4096 (by omega) (by omega) (by omega)
    have ih := rents_loopB l hl n (i + 1) _ (by omega) hn3 (by omega)
    rw [inW_ne hne, inW_ne hn1] at h1
    rw [inW_ne hn1, inW_ne hn2] at h2
    rw [inW_ne hn2, inW_ne hn3] at h3
    generalize ((w.cnts [(l.getD i (0, 0, [])).1]).cnts [(l.getD i (0, 0, [])).2.1]).rbyt (l.getD i (0, 0, [])).2.2 4096 = w3 at *
    generalize (w.cnts [(l.getD i (0, 0, [])).1]).cnts [(l.getD i (0, 0, [])).2.1] = w2 at *
    generalize w.cnts [(l.getD i (0, 0, [])).1] = w1 at *
    generalize w3.rents (l.drop (i + 1)) = w4 at *
    generalize hd : l.getD i (0, 0, []) = e at *
    try simp (maxSteps := 1000000) (disch := first | omega | (simp only [lens, List.length_map]; omega)) only [go_sem, ↓reduceIte, Nat.reduceSub, Nat.reduceAdd, Nat.reduceMul, Nat.reduceLeDiff, Nat.reduceLT, Nat.reduceEqDiff, Nat.reduceBEq, Int.reduceLE, Int.reduceLT, Int.reduceEq, Int.reduceNeg, Int.reduceAdd, Int.reduceSub, Int.reduceMul, Int.reduceToNat] at ih
    simp (maxSteps := 1000000) (disch := first | omega | (simp only [lens, List.length_map]; omega)) only [go_sem, ↓reduceIte, Nat.reduceSub, Nat.reduceAdd, Nat.reduceMul, Nat.reduceLeDiff, Nat.reduceLT, Nat.reduceEqDiff, Nat.reduceBEq, Int.reduceLE, Int.reduceLT, Int.reduceEq, Int.reduceNeg, Int.reduceAdd, Int.reduceSub, Int.reduceMul, Int.reduceToNat, i_ref14_Writer_entries_b0, hd, h1, h2, h3, ih]
theorem rents_loopC (l : List Ent) (hl : l.length ≤ 1048576) : ∀ (n i : Nat) (w : Wr), n + i = l.length → w.b ≠ [] → w.b.length + sumE (l.drop i) ≤ 1073741824 → L_ref14_Writer_entries_0 (s_ref14_Writer_entries_K0 (.ptr 4 0) (.sl true (eE l)) (i64 i) [none, none, none, none, some (oWr (.row 5 w.b.length) w.bad), some (rowB2 w.b)]) = some (.exit 0, s_ref14_Writer_entries_J0 [none, none, none, none, some (oWr (.row 5 (w.rents (l.drop i)).b.length) (w.rents (l.drop i)).bad), some (rowB2 (w.rents (l.drop i)).b)])
  | 0, i, w, h, hne, hb => by
    rw [List.drop_of_length_le (by omega), L_ref14_Writer_entries_0_eq]
    simp only [Wr.rents]
    simp (maxSteps := 1000000) (disch := first | omega | (simp only [lens, List.length_map]; omega)) only [go_sem, ↓reduceIte, Nat.reduceSub, Nat.reduceAdd, Nat.reduceMul, Nat.reduceLeDiff, Nat.reduceLT, Nat.reduceEqDiff, Nat.reduceBEq, Int.reduceLE, Int.reduceLT, Int.reduceEq, Int.reduceNeg, Int.reduceAdd, Int.reduceSub, Int.reduceMul, Int.reduceToNat, i_ref14_Writer_entries_b0]
  | n + 1, i, w, h, hne, hb => by
    rw [drop_step (d := (0, 0, [])) (by omega)] at hb ⊢
    rw [L_ref14_Writer_entries_0_eq]
    simp only [Wr.rents, sumE] at hb ⊢
    have hx0 := rent1_len w (l.getD i (0, 0, []))
    unfold Wr.rent1 at hx0 ⊢
    have hx1 := cnt1_len w (l.getD i (0, 0, [])).1
    have hx2 := cnt1_len (w.cnts [(l.getD i (0, 0, [])).1]) (l.getD i (0, 0, [])).2.1
    have hn1 := cnts_ne w hne [(l.getD i (0, 0, [])).1]
    have hn2 := cnts_ne _ hn1 [(l.getD i (0, 0, [])).2.1]
    have hn3 := rbyt_ne _ (l.getD i (0, 0, [])).2.2 4096 hn2
    have h1 := ref14_count_ev w (l.getD i (0, 0, [])).1 (by omega)
    have h2 := ref14_count_ev (w.cnts [(l.getD i (0, 0, [])).1]) (l.getD i (0, 0, [])).2.1 (by omega)
    have h3 := ref14_bytes_ev ((w.cnts [(l.getD i (0, 0, [])).1]).cnts [(l.getD i (0, 0, [])).2.1]) (l.getD i (0, 0, [])).2.2 4096 (by omega) (by omega) (by omega)
    have ih := rents_loopC l hl n (i + 1) _ (by omega) hn3 (by omega)
    rw [inW_ne hne, inW_ne hn1] at h1
    rw [inW_ne hn1, inW_ne hn2] at h2
    rw [inW_ne hn2, inW_ne hn3] at h3
    generalize ((w.cnts [(l.getD i (0, 0, [])).1]).cnts [(l.getD i (0, 0, [])).2.1]).rbyt (l.getD i (0, 0, [])).2.2 4096 = w3 at *
    generalize (w.cnts [(l.getD i (0, 0, [])).1]).cnts [(l.getD i (0, 0, [])).2.1] = w2 at *
    generalize w.cnts [(l.getD i (0, 0, [])).1] = w1 at *
    generalize w3.rents (l.drop (i + 1)) = w4 at *
    generalize hd : l.getD i (0, 0, []) = e at *
    try simp (maxSteps := 1000000) (disch := first | omega | (simp only [lens, List.length_map]; omega)) only [go_sem, ↓reduceIte, Nat.reduceSub, Nat.reduceAdd, Nat.reduceMul, Nat.reduceLeDiff, Nat.reduceLT, Nat.reduceEqDiff, Nat.reduceBEq, Int.reduceLE, Int.reduceLT, Int.reduceEq, Int.reduceNeg, Int.reduceAdd, Int.reduceSub, Int.reduceMul, Int.reduceToNat] at ih
    simp (maxSteps := 1000000) (disch := first | omega | (simp only [lens, List.length_map]; omega)) only [go_sem, ↓reduceIte, Nat.reduceSub, Nat.reduceAdd, Nat.reduceMul, Nat.reduceLeDiff, Nat.reduceLT, Nat.reduceEqDiff, Nat.reduceBEq, Int.reduceLE, Int.reduceLT, Int.reduceEq, Int.reduceNeg, Int.reduceAdd, Int.reduceSub, Int.reduceMul, Int.reduceToNat, i_ref14_Writer_entries_b0, hd, h1, h2, h3, ih]
theorem ref14_members_ev (w : Wr) (l : List Int) (hl : l.length ≤ 1048576) (hb : w.b.length + 9 + 9 * l.length ≤ 1073741824) : Ev tab G0 n_ref14_Writer_members [.ptr 0 0, .sl true (eI .i64 l)] (inW w) = some ([], inW ((w.cnts [(l.length : Int)]).rmem l)) := by
  have hx1 := cnt1_len w (l.length : Int)
  have hn1 := entsW_ne w l.length hl
  have h1 := ref14_count_ev w (l.length : Int) (by omega)
  have hn2 := rmem_ne _ hn1 l
  have e0 : ((0 : Nat) : Int) = 0 := rfl
  rw [inW_ne hn1] at h1
  rw [inW_ne hn2]
  refine Ev_run t_ref14_Writer_members rfl rfl ?_
  by_cases hw : w.b = []
  · have ih := rmem_loopB l hl l.length 0 _ (by omega) hn1 (by omega)
    rw [inW_nil hw] at h1 ⊢
    rw [e0, List.drop_zero] at ih
    generalize (w.cnts [(l.length : Int)]).rmem l = w2 at *
    generalize w.cnts [(l.length : Int)] = w1 at *
    simp (maxSteps := 1000000) (disch := first | omega | (simp only [lens, List.length_map]; omega)) only [go_sem, ↓reduceIte, Nat.reduceSub, Nat.reduceAdd, Nat.reduceMul, Nat.reduceLeDiff, Nat.reduceLT, Nat.reduceEqDiff, Nat.reduceBEq, Int.reduceLE, Int.reduceLT, Int.reduceEq, Int.reduceNeg, Int.reduceAdd, Int.reduceSub, Int.reduceMul, Int.reduceToNat, i_ref14_Writer_members, h1, ih]
  · have ih := rmem_loopC l hl l.length 0 _ (by omega) hn1 (by omega)
    rw [inW_ne hw] at h1 ⊢
    rw [e0, List.drop_zero] at ih
    generalize (w.cnts [(l.length : Int)]).rmem l = w2 at *
    generalize w.cnts [(l.length : Int)] = w1 at *
    simp (maxSteps := 1000000) (disch := first | omega | (simp only [lens, List.length_map]; omega)) only [go_sem, ↓reduceIte, Nat.reduceSub, Nat.reduceAdd, Nat.reduceMul, Nat.reduceLeDiff, Nat.reduceLT, Nat.reduceEqDiff, Nat.reduceBEq, Int.reduceLE, Int.reduceLT, Int.reduceEq, Int.reduceNeg, Int.reduceAdd, Int.reduceSub, Int.reduceMul, Int.reduceToNat, i_ref14_Writer_members, h1, ih]
theorem ref14_entries_ev (w : Wr) (l : List Ent) (hl : l.length ≤ 1048576) (hb : w.b.length + 9 + sumE l ≤ 1073741824) : Ev tab G0 n_ref14_Writer_entries [.ptr 0 0, .sl true (eE l)] (inW w) = some ([], inW ((w.cnts [(l.length : Int)]).rents l)) := by
  have hx1 := cnt1_len w (l.length : Int)
  have hn1 := entsW_ne w l.length hl
  have h1 := ref14_count_ev w (l.length : Int) (by omega)
  have hn2 := rents_ne _ hn1 l
  have e0 : ((0 : Nat) : Int) = 0 := rfl
  rw [inW_ne hn1] at h1
  rw [inW_ne hn2]
  refine Ev_run t_ref14_Writer_entries rfl rfl ?_
  by_cases hw : w.b = []
  · have ih := rents_loopB l hl l.length 0 _ (by omega) hn1 (by rw [List.drop_zero]; omega)
    rw [inW_nil hw] at h1 ⊢
    rw [e0, List.drop_zero] at ih
    generalize (w.cnts [(l.length : Int)]).rents l = w2 at *
    generalize w.cnts [(l.length : Int)] = w1 at *
    simp (maxSteps := 1000000) (disch := first | omega | (simp only [lens, List.length_map]; omega)) only [go_sem, ↓reduceIte, Nat.reduceSub, Nat.reduceAdd, Nat.reduceMul, Nat.reduceLeDiff, Nat.reduceLT, Nat.reduceEqDiff, Nat.reduceBEq, Int.reduceLE, Int.reduceLT, Int.reduceEq, Int.reduceNeg, Int.reduceAdd, Int.reduceSub, Int.reduceMul, Int.reduceToNat, i_ref14_Writer_entries, h1, ih]
  · have ih := rents_loopC l hl l.length 0 _ (by omega) hn1 (by rw [List.drop_zero]; omega)
    rw [inW_ne hw] at h1 ⊢
    rw [e0, List.drop_zero] at ih
    generalize (w.cnts [(l.length : Int)]).rents l = w2 at *
    generalize w.cnts [(l.length : Int)] = w1 at *
    simp (maxSteps := 1000000) (disch := first | omega | (simp only [lens, List.length_map]; omega)) only [go_sem, ↓reduceIte, Nat.reduceSub, Nat.reduceAdd, Nat.reduceMul, Nat.reduceLeDiff, Nat.reduceLT, Nat.reduceEqDiff, Nat.reduceBEq, Int.reduceLE, Int.reduceLT, Int.reduceEq, Int.reduceNeg, Int.reduceAdd, Int.reduceSub, Int.reduceMul, Int.reduceToNat, i_ref14_Writer_entries, h1, ih]
theorem ref14_end_ev (w : Wr) (hb : w.b.length ≤ 1073741824) (hne : w.b ≠ []) : ∃ fr, Ev tab G0 n_ref14_Writer_end [.ptr 0 0] (inW w) = some ([.sl true (eB w.endB), i64 w.endC], [oWr (.row 1 w.b.length) w.bad, .row ty_uint8 1 true fr (eB w.b)]) := by
  rw [inW_ne hne]
  obtain ⟨b, bad⟩ := w
  simp only at hb hne
  unfold Wr.endB Wr.endC
  cases bad
  · simp only [Bool.false_eq_true, if_false]
    by_cases hl : 1048576 < b.length
    · rw [if_pos hl, if_neg (by decide)]
      refine ⟨false, Ev_run t_ref14_Writer_end rfl rfl ?_⟩
      simp (maxSteps := 1000000) (disch := first | omega | (simp only [lens, List.length_map]; omega)) only [go_sem, ↓reduceIte, Nat.reduceSub, Nat.reduceAdd, Nat.reduceMul, Nat.reduceLeDiff, Nat.reduceLT, Nat.reduceEqDiff, Nat.reduceBEq, Int.reduceLE, Int.reduceLT, Int.reduceEq, Int.reduceNeg, Int.reduceAdd, Int.reduceSub, Int.reduceMul, Int.reduceToNat, i_ref14_Writer_end]
    · rw [if_neg hl, if_pos rfl]
      refine ⟨true, Ev_run t_ref14_Writer_end rfl rfl ?_⟩
      simp (maxSteps := 1000000) (disch := first | omega | (simp only [lens, List.length_map]; omega)) only [go_sem, ↓reduceIte, Nat.reduceSub, Nat.reduceAdd, Nat.reduceMul, Nat.reduceLeDiff, Nat.reduceLT, Nat.reduceEqDiff, Nat.reduceBEq, Int.reduceLE, Int.reduceLT, Int.reduceEq, Int.reduceNeg, Int.reduceAdd, Int.reduceSub, Int.reduceMul, Int.reduceToNat, i_ref14_Writer_end]
  · simp only [if_true]
    rw [if_neg (by decide)]
    refine ⟨false, Ev_run t_ref14_Writer_end rfl rfl ?_⟩
    simp (maxSteps := 1000000) (disch := first | omega | (simp only [lens, List.length_map]; omega)) only [go_sem, ↓reduceIte, Nat.reduceSub, Nat.reduceAdd, Nat.reduceMul, Nat.reduceLeDiff, Nat.reduceLT, Nat.reduceEqDiff, Nat.reduceBEq, Int.reduceLE, Int.reduceLT, Int.reduceEq, Int.reduceNeg, Int.reduceAdd, Int.reduceSub, Int.reduceMul, Int.reduceToNat, i_ref14_Writer_end]

end Go.Proofs.Ytkfaahjcncpmhaa
