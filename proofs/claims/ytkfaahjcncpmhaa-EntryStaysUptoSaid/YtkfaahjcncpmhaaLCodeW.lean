/-
  Trees as bytes.
-/
import Derived.Test.YtkfaahjcncpmhaaLTree5
import Derived.Test.YtkfaahjcncpmhaaLCoder
set_option linter.unusedSimpArgs false
set_option linter.unusedVariables false
set_option maxRecDepth 200000
set_option maxHeartbeats 4000000
namespace Go.Proofs.Ytkfaahjcncpmhaa
open Go.Ev

mutual
def T.long : T → Bool
  | .mk _ _ _ c l => decide (32 < c.length) || longL l
def longL : List T → Bool
  | [] => false
  | t :: l => t.long || longL l
end
theorem long_eq (t : T) : t.long = (decide (32 < t.digest.length) || longL t.kids) := by cases t; simp only [T.long]; rfl
theorem longL_cons (t : T) (l : List T) : longL (t :: l) = (t.long || longL l) := by simp only [longL]
theorem longL_nil : longL [] = false := by simp only [longL]
theorem clong_loop (l : List T) (hl : l.length ≤ 1048576) (hk : ∀ k ∈ l, Ev tab G0 n_code_long [avT k] [] = some ([bo k.long], [])) : ∀ (n i : Nat), n + i = l.length → L_code_long_0 (s_code_long_K0 (.sl true (eT l)) (i64 l.length) (i64 i) [none, none]) = if longL (l.drop i) = true then some (.ret, s_code_long_R (bo true) [none, none]) else some (.exit 0, s_code_long_J0 [none, none])
  | 0, i, h => by
    rw [List.drop_of_length_le (by omega), longL_nil, if_neg (by simp), L_code_long_0_eq]
    simp (maxSteps := 1000000) (disch := first | omega | (simp only [lens, List.length_map]; omega)) only [go_sem, ↓reduceIte, Nat.reduceSub, Nat.reduceAdd, Nat.reduceMul, Nat.reduceLeDiff, Nat.reduceLT, Nat.reduceEqDiff, Nat.reduceBEq, Int.reduceLE, Int.reduceLT, Int.reduceEq, Int.reduceNeg, Int.reduceAdd, Int.reduceSub, Int.reduceMul, Int.reduceToNat, i_code_long_b0]
  | n + 1, i, h => by
    have ih := clong_loop l hl hk n (i + 1) (by omega)
    have h1 := hk _ (getD_mem' (d := .no) (i := i) (by omega))
    rw [drop_step (d := .no) (by omega), longL_cons, L_code_long_0_eq]
    generalize longL (l.drop (i + 1)) = z at *
    try simp (maxSteps := 1000000) (disch := first | omega | (simp only [lens, List.length_map]; omega)) only [go_sem, ↓reduceIte, Nat.reduceSub, Nat.reduceAdd, Nat.reduceMul, Nat.reduceLeDiff, Nat.reduceLT, Nat.reduceEqDiff, Nat.reduceBEq, Int.reduceLE, Int.reduceLT, Int.reduceEq, Int.reduceNeg, Int.reduceAdd, Int.reduceSub, Int.reduceMul, Int.reduceToNat] at ih
    generalize hd : l.getD i .no = k at *
    cases hf : k.long
    · rw [hf] at h1
      rw [Bool.false_or, ← ih]
      simp (maxSteps := 1000000) (disch := first | omega | (simp only [lens, List.length_map]; omega)) only [go_sem, ↓reduceIte, Nat.reduceSub, Nat.reduceAdd, Nat.reduceMul, Nat.reduceLeDiff, Nat.reduceLT, Nat.reduceEqDiff, Nat.reduceBEq, Int.reduceLE, Int.reduceLT, Int.reduceEq, Int.reduceNeg, Int.reduceAdd, Int.reduceSub, Int.reduceMul, Int.reduceToNat, i_code_long_b0, hd, h1]
    · rw [hf] at h1
      rw [Bool.true_or, if_pos rfl]
      simp (maxSteps := 1000000) (disch := first | omega | (simp only [lens, List.length_map]; omega)) only [go_sem, ↓reduceIte, Nat.reduceSub, Nat.reduceAdd, Nat.reduceMul, Nat.reduceLeDiff, Nat.reduceLT, Nat.reduceEqDiff, Nat.reduceBEq, Int.reduceLE, Int.reduceLT, Int.reduceEq, Int.reduceNeg, Int.reduceAdd, Int.reduceSub, Int.reduceMul, Int.reduceToNat, i_code_long_b0, hd, h1]
theorem code_long_ev : ∀ (t : T), t.size ≤ 1048576 → Ev tab G0 n_code_long [avT t] [] = some ([bo t.long], []) := T_ind fun t ih hs => by
  have hl := kids_len t
  have hz := size_eq t
  have e0 : ((0 : Nat) : Int) = 0 := rfl
  have hk : ∀ k ∈ t.kids, Ev tab G0 n_code_long [avT k] [] = some ([bo k.long], []) := fun k hk => ih k hk (by have := size_kid hk; omega)
  have h0 := clong_loop t.kids (by omega) hk t.kids.length 0 (by omega)
  rw [List.drop_zero, e0] at h0
  rw [long_eq]
  generalize longL t.kids = z at *
  refine Ev_run t_code_long rfl rfl ?_
  by_cases c : 32 < t.digest.length
  · rw [decide_eq_true c]
    simp (maxSteps := 1000000) (disch := first | omega | (simp only [lens, List.length_map]; omega)) only [go_sem, ↓reduceIte, Nat.reduceSub, Nat.reduceAdd, Nat.reduceMul, Nat.reduceLeDiff, Nat.reduceLT, Nat.reduceEqDiff, Nat.reduceBEq, Int.reduceLE, Int.reduceLT, Int.reduceEq, Int.reduceNeg, Int.reduceAdd, Int.reduceSub, Int.reduceMul, Int.reduceToNat, i_code_long]
  · rw [decide_eq_false c, Bool.false_or]
    cases z
    · rw [if_neg (by simp)] at h0
      simp (maxSteps := 1000000) (disch := first | omega | (simp only [lens, List.length_map]; omega)) only [go_sem, ↓reduceIte, Nat.reduceSub, Nat.reduceAdd, Nat.reduceMul, Nat.reduceLeDiff, Nat.reduceLT, Nat.reduceEqDiff, Nat.reduceBEq, Int.reduceLE, Int.reduceLT, Int.reduceEq, Int.reduceNeg, Int.reduceAdd, Int.reduceSub, Int.reduceMul, Int.reduceToNat, i_code_long, h0]
    · rw [if_pos rfl] at h0
      simp (maxSteps := 1000000) (disch := first | omega | (simp only [lens, List.length_map]; omega)) only [go_sem, ↓reduceIte, Nat.reduceSub, Nat.reduceAdd, Nat.reduceMul, Nat.reduceLeDiff, Nat.reduceLT, Nat.reduceEqDiff, Nat.reduceBEq, Int.reduceLE, Int.reduceLT, Int.reduceEq, Int.reduceNeg, Int.reduceAdd, Int.reduceSub, Int.reduceMul, Int.reduceToNat, i_code_long, h0]
theorem rlong_loop (t : T) (hl : t.kids.length ≤ 1048576) (hk : ∀ k ∈ t.kids, Ev tab G0 n_ref10_long [avT k] [] = some ([bo k.long], [])) : ∀ (n i : Nat), n + i = t.kids.length → L_ref10_long_0 (s_ref10_long_K0 (.ptr 0 0) (i64 i) [some (oT t)]) = if longL (t.kids.drop i) = true then some (.ret, s_ref10_long_R (bo true) [none]) else some (.exit 0, s_ref10_long_J0 [none])
  | 0, i, h => by
    rw [List.drop_of_length_le (by omega), longL_nil, if_neg (by simp), L_ref10_long_0_eq]
    simp (maxSteps := 1000000) (disch := first | omega | (simp only [lens, List.length_map]; omega)) only [go_sem, ↓reduceIte, Nat.reduceSub, Nat.reduceAdd, Nat.reduceMul, Nat.reduceLeDiff, Nat.reduceLT, Nat.reduceEqDiff, Nat.reduceBEq, Int.reduceLE, Int.reduceLT, Int.reduceEq, Int.reduceNeg, Int.reduceAdd, Int.reduceSub, Int.reduceMul, Int.reduceToNat, i_ref10_long_b0]
  | n + 1, i, h => by
    have ih := rlong_loop t hl hk n (i + 1) (by omega)
    have h1 := hk _ (getD_mem' (d := .no) (i := i) (by omega))
    rw [drop_step (d := .no) (by omega), longL_cons, L_ref10_long_0_eq]
    generalize longL (t.kids.drop (i + 1)) = z at *
    try simp (maxSteps := 1000000) (disch := first | omega | (simp only [lens, List.length_map]; omega)) only [go_sem, ↓reduceIte, Nat.reduceSub, Nat.reduceAdd, Nat.reduceMul, Nat.reduceLeDiff, Nat.reduceLT, Nat.reduceEqDiff, Nat.reduceBEq, Int.reduceLE, Int.reduceLT, Int.reduceEq, Int.reduceNeg, Int.reduceAdd, Int.reduceSub, Int.reduceMul, Int.reduceToNat] at ih
    generalize hd : t.kids.getD i .no = k at *
    cases hf : k.long
    · rw [hf] at h1
      rw [Bool.false_or, ← ih]
      simp (maxSteps := 1000000) (disch := first | omega | (simp only [lens, List.length_map]; omega)) only [go_sem, ↓reduceIte, Nat.reduceSub, Nat.reduceAdd, Nat.reduceMul, Nat.reduceLeDiff, Nat.reduceLT, Nat.reduceEqDiff, Nat.reduceBEq, Int.reduceLE, Int.reduceLT, Int.reduceEq, Int.reduceNeg, Int.reduceAdd, Int.reduceSub, Int.reduceMul, Int.reduceToNat, i_ref10_long_b0, hd, h1]
    · rw [hf] at h1
      rw [Bool.true_or, if_pos rfl]
      simp (maxSteps := 1000000) (disch := first | omega | (simp only [lens, List.length_map]; omega)) only [go_sem, ↓reduceIte, Nat.reduceSub, Nat.reduceAdd, Nat.reduceMul, Nat.reduceLeDiff, Nat.reduceLT, Nat.reduceEqDiff, Nat.reduceBEq, Int.reduceLE, Int.reduceLT, Int.reduceEq, Int.reduceNeg, Int.reduceAdd, Int.reduceSub, Int.reduceMul, Int.reduceToNat, i_ref10_long_b0, hd, h1]
theorem ref10_long_ev : ∀ (t : T), t.size ≤ 1048576 → Ev tab G0 n_ref10_long [avT t] [] = some ([bo t.long], []) := T_ind fun t ih hs => by
  have hl := kids_len t
  have hz := size_eq t
  have e0 : ((0 : Nat) : Int) = 0 := rfl
  have hk : ∀ k ∈ t.kids, Ev tab G0 n_ref10_long [avT k] [] = some ([bo k.long], []) := fun k hk => ih k hk (by have := size_kid hk; omega)
  have h0 := rlong_loop t (by omega) hk t.kids.length 0 (by omega)
  rw [List.drop_zero, e0] at h0
  rw [long_eq]
  generalize longL t.kids = z at *
  refine Ev_run t_ref10_long rfl rfl ?_
  by_cases c : 32 < t.digest.length
  · rw [decide_eq_true c]
    simp (maxSteps := 1000000) (disch := first | omega | (simp only [lens, List.length_map]; omega)) only [go_sem, ↓reduceIte, Nat.reduceSub, Nat.reduceAdd, Nat.reduceMul, Nat.reduceLeDiff, Nat.reduceLT, Nat.reduceEqDiff, Nat.reduceBEq, Int.reduceLE, Int.reduceLT, Int.reduceEq, Int.reduceNeg, Int.reduceAdd, Int.reduceSub, Int.reduceMul, Int.reduceToNat, i_ref10_long]
  · rw [decide_eq_false c, Bool.false_or]
    cases z
    · rw [if_neg (by simp)] at h0
      simp (maxSteps := 1000000) (disch := first | omega | (simp only [lens, List.length_map]; omega)) only [go_sem, ↓reduceIte, Nat.reduceSub, Nat.reduceAdd, Nat.reduceMul, Nat.reduceLeDiff, Nat.reduceLT, Nat.reduceEqDiff, Nat.reduceBEq, Int.reduceLE, Int.reduceLT, Int.reduceEq, Int.reduceNeg, Int.reduceAdd, Int.reduceSub, Int.reduceMul, Int.reduceToNat, i_ref10_long, h0]
    · rw [if_pos rfl] at h0
      simp (maxSteps := 1000000) (disch := first | omega | (simp only [lens, List.length_map]; omega)) only [go_sem, ↓reduceIte, Nat.reduceSub, Nat.reduceAdd, Nat.reduceMul, Nat.reduceLeDiff, Nat.reduceLT, Nat.reduceEqDiff, Nat.reduceBEq, Int.reduceLE, Int.reduceLT, Int.reduceEq, Int.reduceNeg, Int.reduceAdd, Int.reduceSub, Int.reduceMul, Int.reduceToNat, i_ref10_long, h0]
/-! ### The bytes -/
def hdB (k : Int) (a b c : List UInt8) : List UInt8 := byt k :: (if k = 1 then byts a ++ byts b else if k = 2 then byts a ++ byts c else if k = 3 then byts c else [])
mutual
def T.wr : T → List UInt8
  | .mk k a b c l => hdB k a b c ++ wrL l
def wrL : List T → List UInt8
  | [] => []
  | t :: l => t.wr ++ wrL l
end
theorem wr_eq (t : T) : t.wr = hdB t.kind t.key t.value t.digest ++ wrL t.kids := by cases t; simp only [T.wr]; rfl
theorem wr_nil {t : T} (h : t.kids = []) : t.wr = hdB t.kind t.key t.value t.digest := by rw [wr_eq, h]; simp only [wrL, List.append_nil]
theorem wr_two {t l r : T} (h : t.kids = [l, r]) : t.wr = hdB t.kind t.key t.value t.digest ++ (l.wr ++ r.wr) := by rw [wr_eq, h]; simp only [wrL, List.append_nil]
theorem hdB_len (k : Int) (a b c : List UInt8) : (hdB k a b c).length ≤ 1 + a.length + b.length + c.length + 18 := by
  have h1 := byts_len a
  have h2 := byts_len b
  have h3 := byts_len c
  unfold hdB
  split
  · simp only [List.length_cons, List.length_append]; omega
  · split
    · simp only [List.length_cons, List.length_append]; omega
    · split
      · simp only [List.length_cons]; omega
      · simp only [List.length_cons, List.length_nil]; omega
theorem wr_len : ∀ t : T, t.formed = true → t.wr.length ≤ 19 * t.size := F_ind
  (fun t _ h => by
    have := hdB_len t.kind t.key t.value t.digest
    have hz := size_eq t
    rw [wr_nil h]
    omega)
  fun t l r _ h _ _ h1 h2 => by
    have := hdB_len t.kind t.key t.value t.digest
    have hz := size_two h
    rw [wr_two h, List.length_append, List.length_append]
    omega
theorem byt_0 : byt 0 = 0 := rfl
abbrev rowB (l : List UInt8) : Ev.Obj := .row ty_uint8 1 true false (eB l)
theorem hd_kind {t : T} (h : t.formed = true) : okT t := by
  rw [formed_eq] at h
  simp only [Bool.and_eq_true, decide_eq_true_eq] at h
  exact h.1
abbrev WrOk (t : T) : Prop := ∀ acc : List UInt8, acc ≠ [] → acc.length + 19 * t.size ≤ 1000000000 → Ev tab G0 n_code_write [.row 0 acc.length, avT t] [rowB acc] = some ([.row 0 (acc ++ t.wr).length], [rowB (acc ++ t.wr), .dead])
theorem cwrite_0 (t : T) (h0 : t.kids = []) (hk : t.kind = 0 ∨ t.kind = 3) : WrOk t := fun acc ha hb => by
  have hz := size_eq t
  rw [wr_nil h0]
  rcases hk with hk | hk
  · unfold hdB
    rw [hk, if_neg (by omega), if_neg (by omega), if_neg (by omega)]
    refine Ev_run t_code_write rfl rfl ?_
    simp (maxSteps := 1000000) (disch := first | omega | (simp only [lens, List.length_map]; omega)) only [go_sem, ↓reduceIte, Nat.reduceSub, Nat.reduceAdd, Nat.reduceMul, Nat.reduceLeDiff, Nat.reduceLT, Nat.reduceEqDiff, Nat.reduceBEq, Int.reduceLE, Int.reduceLT, Int.reduceEq, Int.reduceNeg, Int.reduceAdd, Int.reduceSub, Int.reduceMul, Int.reduceToNat, i_code_write, h0, hk]
    rw [L_code_write_0_eq]
    simp (maxSteps := 1000000) (disch := first | omega | (simp only [lens, List.length_map]; omega)) only [go_sem, ↓reduceIte, Nat.reduceSub, Nat.reduceAdd, Nat.reduceMul, Nat.reduceLeDiff, Nat.reduceLT, Nat.reduceEqDiff, Nat.reduceBEq, Int.reduceLE, Int.reduceLT, Int.reduceEq, Int.reduceNeg, Int.reduceAdd, Int.reduceSub, Int.reduceMul, Int.reduceToNat, i_code_write_b0]
  · have h1 := coder_Bytes_ev t.digest (by omega)
    have h2 := byts_len t.digest
    unfold hdB
    rw [hk, if_neg (by omega), if_neg (by omega), if_pos rfl]
    generalize byts t.digest = d at *
    refine Ev_run t_code_write rfl rfl ?_
    simp (maxSteps := 1000000) (disch := first | omega | (simp only [lens, List.length_map]; omega)) only [go_sem, ↓reduceIte, Nat.reduceSub, Nat.reduceAdd, Nat.reduceMul, Nat.reduceLeDiff, Nat.reduceLT, Nat.reduceEqDiff, Nat.reduceBEq, Int.reduceLE, Int.reduceLT, Int.reduceEq, Int.reduceNeg, Int.reduceAdd, Int.reduceSub, Int.reduceMul, Int.reduceToNat, i_code_write, h0, hk, h1]
    rw [L_code_write_0_eq]
    simp (maxSteps := 1000000) (disch := first | omega | (simp only [lens, List.length_map]; omega)) only [go_sem, ↓reduceIte, Nat.reduceSub, Nat.reduceAdd, Nat.reduceMul, Nat.reduceLeDiff, Nat.reduceLT, Nat.reduceEqDiff, Nat.reduceBEq, Int.reduceLE, Int.reduceLT, Int.reduceEq, Int.reduceNeg, Int.reduceAdd, Int.reduceSub, Int.reduceMul, Int.reduceToNat, i_code_write_b0]
theorem cwrite_1 (t l r : T) (h0 : t.kids = [l, r]) (hk : t.kind = 1 ∨ t.kind = 2) (hl : l.formed = true) (hr : r.formed = true) (il : WrOk l) (ir : WrOk r) : WrOk t := fun acc ha hb => by
  have hz := size_two h0
  have wl := wr_len l hl
  have wr := wr_len r hr
  have h1 := coder_Bytes_ev t.key (by omega)
  have h2 := byts_len t.key
  rw [wr_two h0]
  rcases hk with hk | hk
  · have h3 := coder_Bytes_ev t.value (by omega)
    have h4 := byts_len t.value
    unfold hdB
    rw [hk, if_pos rfl]
    generalize byts t.key = d at *
    generalize byts t.value = e at *
    have k1 := il (acc ++ byt 1 :: (d ++ e)) (by simp) (by simp only [List.length_append, List.length_cons]; omega)
    have k2 := ir (acc ++ byt 1 :: (d ++ (e ++ l.wr))) (by simp) (by simp only [List.length_append, List.length_cons]; omega)
    generalize l.wr = x at *
    generalize r.wr = y at *
    try simp (maxSteps := 1000000) (disch := first | omega | (simp only [lens, List.length_map]; omega)) only [go_sem, ↓reduceIte, Nat.reduceSub, Nat.reduceAdd, Nat.reduceMul, Nat.reduceLeDiff, Nat.reduceLT, Nat.reduceEqDiff, Nat.reduceBEq, Int.reduceLE, Int.reduceLT, Int.reduceEq, Int.reduceNeg, Int.reduceAdd, Int.reduceSub, Int.reduceMul, Int.reduceToNat] at k1
    try simp (maxSteps := 1000000) (disch := first | omega | (simp only [lens, List.length_map]; omega)) only [go_sem, ↓reduceIte, Nat.reduceSub, Nat.reduceAdd, Nat.reduceMul, Nat.reduceLeDiff, Nat.reduceLT, Nat.reduceEqDiff, Nat.reduceBEq, Int.reduceLE, Int.reduceLT, Int.reduceEq, Int.reduceNeg, Int.reduceAdd, Int.reduceSub, Int.reduceMul, Int.reduceToNat] at k2
    refine Ev_run t_code_write rfl rfl ?_
    simp (maxSteps := 1000000) (disch := first | omega | (simp only [lens, List.length_map]; omega)) only [go_sem, ↓reduceIte, Nat.reduceSub, Nat.reduceAdd, Nat.reduceMul, Nat.reduceLeDiff, Nat.reduceLT, Nat.reduceEqDiff, Nat.reduceBEq, Int.reduceLE, Int.reduceLT, Int.reduceEq, Int.reduceNeg, Int.reduceAdd, Int.reduceSub, Int.reduceMul, Int.reduceToNat, i_code_write, h0, hk, h1, h3]
    rw [L_code_write_0_eq]
    simp (maxSteps := 1000000) (disch := first | omega | (simp only [lens, List.length_map]; omega)) only [go_sem, ↓reduceIte, Nat.reduceSub, Nat.reduceAdd, Nat.reduceMul, Nat.reduceLeDiff, Nat.reduceLT, Nat.reduceEqDiff, Nat.reduceBEq, Int.reduceLE, Int.reduceLT, Int.reduceEq, Int.reduceNeg, Int.reduceAdd, Int.reduceSub, Int.reduceMul, Int.reduceToNat, i_code_write_b0, k1]
    rw [L_code_write_0_eq]
    simp (maxSteps := 1000000) (disch := first | omega | (simp only [lens, List.length_map]; omega)) only [go_sem, ↓reduceIte, Nat.reduceSub, Nat.reduceAdd, Nat.reduceMul, Nat.reduceLeDiff, Nat.reduceLT, Nat.reduceEqDiff, Nat.reduceBEq, Int.reduceLE, Int.reduceLT, Int.reduceEq, Int.reduceNeg, Int.reduceAdd, Int.reduceSub, Int.reduceMul, Int.reduceToNat, i_code_write_b0, k2]
    rw [L_code_write_0_eq]
    simp (maxSteps := 1000000) (disch := first | omega | (simp only [lens, List.length_map]; omega)) only [go_sem, ↓reduceIte, Nat.reduceSub, Nat.reduceAdd, Nat.reduceMul, Nat.reduceLeDiff, Nat.reduceLT, Nat.reduceEqDiff, Nat.reduceBEq, Int.reduceLE, Int.reduceLT, Int.reduceEq, Int.reduceNeg, Int.reduceAdd, Int.reduceSub, Int.reduceMul, Int.reduceToNat, i_code_write_b0]
  · have h3 := coder_Bytes_ev t.digest (by omega)
    have h4 := byts_len t.digest
    unfold hdB
    rw [hk, if_neg (by omega), if_pos rfl]
    generalize byts t.key = d at *
    generalize byts t.digest = e at *
    have k1 := il (acc ++ byt 2 :: (d ++ e)) (by simp) (by simp only [List.length_append, List.length_cons]; omega)
    have k2 := ir (acc ++ byt 2 :: (d ++ (e ++ l.wr))) (by simp) (by simp only [List.length_append, List.length_cons]; omega)
    generalize l.wr = x at *
    generalize r.wr = y at *
    try simp (maxSteps := 1000000) (disch := first | omega | (simp only [lens, List.length_map]; omega)) only [go_sem, ↓reduceIte, Nat.reduceSub, Nat.reduceAdd, Nat.reduceMul, Nat.reduceLeDiff, Nat.reduceLT, Nat.reduceEqDiff, Nat.reduceBEq, Int.reduceLE, Int.reduceLT, Int.reduceEq, Int.reduceNeg, Int.reduceAdd, Int.reduceSub, Int.reduceMul, Int.reduceToNat] at k1
    try simp (maxSteps := 1000000) (disch := first | omega | (simp only [lens, List.length_map]; omega)) only [go_sem, ↓reduceIte, Nat.reduceSub, Nat.reduceAdd, Nat.reduceMul, Nat.reduceLeDiff, Nat.reduceLT, Nat.reduceEqDiff, Nat.reduceBEq, Int.reduceLE, Int.reduceLT, Int.reduceEq, Int.reduceNeg, Int.reduceAdd, Int.reduceSub, Int.reduceMul, Int.reduceToNat] at k2
    refine Ev_run t_code_write rfl rfl ?_
    simp (maxSteps := 1000000) (disch := first | omega | (simp only [lens, List.length_map]; omega)) only [go_sem, ↓reduceIte, Nat.reduceSub, Nat.reduceAdd, Nat.reduceMul, Nat.reduceLeDiff, Nat.reduceLT, Nat.reduceEqDiff, Nat.reduceBEq, Int.reduceLE, Int.reduceLT, Int.reduceEq, Int.reduceNeg, Int.reduceAdd, Int.reduceSub, Int.reduceMul, Int.reduceToNat, i_code_write, h0, hk, h1, h3]
    rw [L_code_write_0_eq]
    simp (maxSteps := 1000000) (disch := first | omega | (simp only [lens, List.length_map]; omega)) only [go_sem, ↓reduceIte, Nat.reduceSub, Nat.reduceAdd, Nat.reduceMul, Nat.reduceLeDiff, Nat.reduceLT, Nat.reduceEqDiff, Nat.reduceBEq, Int.reduceLE, Int.reduceLT, Int.reduceEq, Int.reduceNeg, Int.reduceAdd, Int.reduceSub, Int.reduceMul, Int.reduceToNat, i_code_write_b0, k1]
    rw [L_code_write_0_eq]
    simp (maxSteps := 1000000) (disch := first | omega | (simp only [lens, List.length_map]; omega)) only [go_sem, ↓reduceIte, Nat.reduceSub, Nat.reduceAdd, Nat.reduceMul, Nat.reduceLeDiff, Nat.reduceLT, Nat.reduceEqDiff, Nat.reduceBEq, Int.reduceLE, Int.reduceLT, Int.reduceEq, Int.reduceNeg, Int.reduceAdd, Int.reduceSub, Int.reduceMul, Int.reduceToNat, i_code_write_b0, k2]
    rw [L_code_write_0_eq]
    simp (maxSteps := 1000000) (disch := first | omega | (simp only [lens, List.length_map]; omega)) only [go_sem, ↓reduceIte, Nat.reduceSub, Nat.reduceAdd, Nat.reduceMul, Nat.reduceLeDiff, Nat.reduceLT, Nat.reduceEqDiff, Nat.reduceBEq, Int.reduceLE, Int.reduceLT, Int.reduceEq, Int.reduceNeg, Int.reduceAdd, Int.reduceSub, Int.reduceMul, Int.reduceToNat, i_code_write_b0]
theorem cwrite_ok : ∀ t : T, t.formed = true → WrOk t := F_ind
  (fun t hf h => by
    have := hd_kind hf
    unfold okT at this
    rw [h] at this
    simp only [List.length_nil] at this
    exact cwrite_0 t h (by omega))
  fun t l r hf h hl hr il ir => by
    have := hd_kind hf
    unfold okT at this
    rw [h] at this
    simp only [List.length_cons, List.length_nil] at this
    exact cwrite_1 t l r h (by omega) hl hr il ir
theorem eB_emp {x : UInt8} {l : List UInt8} : (eB (x :: l)).isEmpty = false := rfl
theorem cwrite_nil (t : T) (hf : t.formed = true) (hs : t.size ≤ 1048576) : Ev tab G0 n_code_write [.nilsl, avT t] [] = some ([.row 0 t.wr.length], [rowB t.wr]) := by
  have hz := size_eq t
  have ho := hd_kind hf
  rcases two_of hf with h0 | ⟨l, r, h0, hl, hr⟩
  · unfold okT at ho
    rw [h0] at ho
    simp only [List.length_nil] at ho
    have hk : t.kind = 0 ∨ t.kind = 3 := by omega
    rw [wr_nil h0]
    rcases hk with hk | hk
    · unfold hdB
      rw [hk, if_neg (by omega), if_neg (by omega), if_neg (by omega)]
      refine Ev_run t_code_write rfl rfl ?_
      simp (maxSteps := 1000000) (disch := first | omega | (simp only [lens, List.length_map]; omega)) only [go_sem, ↓reduceIte, Nat.reduceSub, Nat.reduceAdd, Nat.reduceMul, Nat.reduceLeDiff, Nat.reduceLT, Nat.reduceEqDiff, Nat.reduceBEq, Int.reduceLE, Int.reduceLT, Int.reduceEq, Int.reduceNeg, Int.reduceAdd, Int.reduceSub, Int.reduceMul, Int.reduceToNat, i_code_write, eB_emp, h0, hk]
      rw [L_code_write_0_eq]
      simp (maxSteps := 1000000) (disch := first | omega | (simp only [lens, List.length_map]; omega)) only [go_sem, ↓reduceIte, Nat.reduceSub, Nat.reduceAdd, Nat.reduceMul, Nat.reduceLeDiff, Nat.reduceLT, Nat.reduceEqDiff, Nat.reduceBEq, Int.reduceLE, Int.reduceLT, Int.reduceEq, Int.reduceNeg, Int.reduceAdd, Int.reduceSub, Int.reduceMul, Int.reduceToNat, i_code_write_b0]
    · have h1 := coder_Bytes_ev t.digest (by omega)
      have h2 := byts_len t.digest
      unfold hdB
      rw [hk, if_neg (by omega), if_neg (by omega), if_pos rfl]
      generalize byts t.digest = d at *
      refine Ev_run t_code_write rfl rfl ?_
      simp (maxSteps := 1000000) (disch := first | omega | (simp only [lens, List.length_map]; omega)) only [go_sem, ↓reduceIte, Nat.reduceSub, Nat.reduceAdd, Nat.reduceMul, Nat.reduceLeDiff, Nat.reduceLT, Nat.reduceEqDiff, Nat.reduceBEq, Int.reduceLE, Int.reduceLT, Int.reduceEq, Int.reduceNeg, Int.reduceAdd, Int.reduceSub, Int.reduceMul, Int.reduceToNat, i_code_write, eB_emp, h0, hk, h1]
      rw [L_code_write_0_eq]
      simp (maxSteps := 1000000) (disch := first | omega | (simp only [lens, List.length_map]; omega)) only [go_sem, ↓reduceIte, Nat.reduceSub, Nat.reduceAdd, Nat.reduceMul, Nat.reduceLeDiff, Nat.reduceLT, Nat.reduceEqDiff, Nat.reduceBEq, Int.reduceLE, Int.reduceLT, Int.reduceEq, Int.reduceNeg, Int.reduceAdd, Int.reduceSub, Int.reduceMul, Int.reduceToNat, i_code_write_b0]
  · unfold okT at ho
    rw [h0] at ho
    simp only [List.length_cons, List.length_nil] at ho
    have hk : t.kind = 1 ∨ t.kind = 2 := by omega
    have hz := size_two h0
    have wl := wr_len l hl
    have wr := wr_len r hr
    have il := cwrite_ok l hl
    have ir := cwrite_ok r hr
    have h1 := coder_Bytes_ev t.key (by omega)
    have h2 := byts_len t.key
    rw [wr_two h0]
    rcases hk with hk | hk
    · have h3 := coder_Bytes_ev t.value (by omega)
      have h4 := byts_len t.value
      unfold hdB
      rw [hk, if_pos rfl]
      generalize byts t.key = d at *
      generalize byts t.value = e at *
      have k1 := il (byt 1 :: (d ++ e)) (by simp) (by simp only [List.length_append, List.length_cons]; omega)
      have k2 := ir (byt 1 :: (d ++ (e ++ l.wr))) (by simp) (by simp only [List.length_append, List.length_cons]; omega)
      generalize l.wr = x at *
      generalize r.wr = y at *
      try simp (maxSteps := 1000000) (disch := first | omega | (simp only [lens, List.length_map]; omega)) only [go_sem, ↓reduceIte, Nat.reduceSub, Nat.reduceAdd, Nat.reduceMul, Nat.reduceLeDiff, Nat.reduceLT, Nat.reduceEqDiff, Nat.reduceBEq, Int.reduceLE, Int.reduceLT, Int.reduceEq, Int.reduceNeg, Int.reduceAdd, Int.reduceSub, Int.reduceMul, Int.reduceToNat] at k1
      try simp (maxSteps := 1000000) (disch := first | omega | (simp only [lens, List.length_map]; omega)) only [go_sem, ↓reduceIte, Nat.reduceSub, Nat.reduceAdd, Nat.reduceMul, Nat.reduceLeDiff, Nat.reduceLT, Nat.reduceEqDiff, Nat.reduceBEq, Int.reduceLE, Int.reduceLT, Int.reduceEq, Int.reduceNeg, Int.reduceAdd, Int.reduceSub, Int.reduceMul, Int.reduceToNat] at k2
      refine Ev_run t_code_write rfl rfl ?_
      simp (maxSteps := 1000000) (disch := first | omega | (simp only [lens, List.length_map]; omega)) only [go_sem, ↓reduceIte, Nat.reduceSub, Nat.reduceAdd, Nat.reduceMul, Nat.reduceLeDiff, Nat.reduceLT, Nat.reduceEqDiff, Nat.reduceBEq, Int.reduceLE, Int.reduceLT, Int.reduceEq, Int.reduceNeg, Int.reduceAdd, Int.reduceSub, Int.reduceMul, Int.reduceToNat, i_code_write, eB_emp, h0, hk, h1, h3]
      rw [L_code_write_0_eq]
      simp (maxSteps := 1000000) (disch := first | omega | (simp only [lens, List.length_map]; omega)) only [go_sem, ↓reduceIte, Nat.reduceSub, Nat.reduceAdd, Nat.reduceMul, Nat.reduceLeDiff, Nat.reduceLT, Nat.reduceEqDiff, Nat.reduceBEq, Int.reduceLE, Int.reduceLT, Int.reduceEq, Int.reduceNeg, Int.reduceAdd, Int.reduceSub, Int.reduceMul, Int.reduceToNat, i_code_write_b0, k1]
      rw [L_code_write_0_eq]
      simp (maxSteps := 1000000) (disch := first | omega | (simp only [lens, List.length_map]; omega)) only [go_sem, ↓reduceIte, Nat.reduceSub, Nat.reduceAdd, Nat.reduceMul, Nat.reduceLeDiff, Nat.reduceLT, Nat.reduceEqDiff, Nat.reduceBEq, Int.reduceLE, Int.reduceLT, Int.reduceEq, Int.reduceNeg, Int.reduceAdd, Int.reduceSub, Int.reduceMul, Int.reduceToNat, i_code_write_b0, k2]
      rw [L_code_write_0_eq]
      simp (maxSteps := 1000000) (disch := first | omega | (simp only [lens, List.length_map]; omega)) only [go_sem, ↓reduceIte, Nat.reduceSub, Nat.reduceAdd, Nat.reduceMul, Nat.reduceLeDiff, Nat.reduceLT, Nat.reduceEqDiff, Nat.reduceBEq, Int.reduceLE, Int.reduceLT, Int.reduceEq, Int.reduceNeg, Int.reduceAdd, Int.reduceSub, Int.reduceMul, Int.reduceToNat, i_code_write_b0]
    · have h3 := coder_Bytes_ev t.digest (by omega)
      have h4 := byts_len t.digest
      unfold hdB
      rw [hk, if_neg (by omega), if_pos rfl]
      generalize byts t.key = d at *
      generalize byts t.digest = e at *
      have k1 := il (byt 2 :: (d ++ e)) (by simp) (by simp only [List.length_append, List.length_cons]; omega)
      have k2 := ir (byt 2 :: (d ++ (e ++ l.wr))) (by simp) (by simp only [List.length_append, List.length_cons]; omega)
      generalize l.wr = x at *
      generalize r.wr = y at *
      try simp (maxSteps := 1000000) (disch := first | omega | (simp only [lens, List.length_map]; omega)) only [go_sem, ↓reduceIte, Nat.reduceSub, Nat.reduceAdd, Nat.reduceMul, Nat.reduceLeDiff, Nat.reduceLT, Nat.reduceEqDiff, Nat.reduceBEq, Int.reduceLE, Int.reduceLT, Int.reduceEq, Int.reduceNeg, Int.reduceAdd, Int.reduceSub, Int.reduceMul, Int.reduceToNat] at k1
      try simp (maxSteps := 1000000) (disch := first | omega | (simp only [lens, List.length_map]; omega)) only [go_sem, ↓reduceIte, Nat.reduceSub, Nat.reduceAdd, Nat.reduceMul, Nat.reduceLeDiff, Nat.reduceLT, Nat.reduceEqDiff, Nat.reduceBEq, Int.reduceLE, Int.reduceLT, Int.reduceEq, Int.reduceNeg, Int.reduceAdd, Int.reduceSub, Int.reduceMul, Int.reduceToNat] at k2
      refine Ev_run t_code_write rfl rfl ?_
      simp (maxSteps := 1000000) (disch := first | omega | (simp only [lens, List.length_map]; omega)) only [go_sem, ↓reduceIte, Nat.reduceSub, Nat.reduceAdd, Nat.reduceMul, Nat.reduceLeDiff, Nat.reduceLT, Nat.reduceEqDiff, Nat.reduceBEq, Int.reduceLE, Int.reduceLT, Int.reduceEq, Int.reduceNeg, Int.reduceAdd, Int.reduceSub, Int.reduceMul, Int.reduceToNat, i_code_write, eB_emp, h0, hk, h1, h3]
      rw [L_code_write_0_eq]
      simp (maxSteps := 1000000) (disch := first | omega | (simp only [lens, List.length_map]; omega)) only [go_sem, ↓reduceIte, Nat.reduceSub, Nat.reduceAdd, Nat.reduceMul, Nat.reduceLeDiff, Nat.reduceLT, Nat.reduceEqDiff, Nat.reduceBEq, Int.reduceLE, Int.reduceLT, Int.reduceEq, Int.reduceNeg, Int.reduceAdd, Int.reduceSub, Int.reduceMul, Int.reduceToNat, i_code_write_b0, k1]
      rw [L_code_write_0_eq]
      simp (maxSteps := 1000000) (disch := first | omega | (simp only [lens, List.length_map]; omega)) only [go_sem, ↓reduceIte, Nat.reduceSub, Nat.reduceAdd, Nat.reduceMul, Nat.reduceLeDiff, Nat.reduceLT, Nat.reduceEqDiff, Nat.reduceBEq, Int.reduceLE, Int.reduceLT, Int.reduceEq, Int.reduceNeg, Int.reduceAdd, Int.reduceSub, Int.reduceMul, Int.reduceToNat, i_code_write_b0, k2]
      rw [L_code_write_0_eq]
      simp (maxSteps := 1000000) (disch := first | omega | (simp only [lens, List.length_map]; omega)) only [go_sem, ↓reduceIte, Nat.reduceSub, Nat.reduceAdd, Nat.reduceMul, Nat.reduceLeDiff, Nat.reduceLT, Nat.reduceEqDiff, Nat.reduceBEq, Int.reduceLE, Int.reduceLT, Int.reduceEq, Int.reduceNeg, Int.reduceAdd, Int.reduceSub, Int.reduceMul, Int.reduceToNat, i_code_write_b0]
/-! ### The document's -/
theorem rbytes_0 (t : T) (h0 : t.kids = []) (hk : t.kind = 0 ∨ t.kind = 3) (hs : t.size ≤ 1048576) : Ev tab G0 n_ref10_bytes [avT t] [] = some ([.sl true (eB t.wr)], []) := by
  have hz := size_eq t
  rw [wr_nil h0]
  rcases hk with hk | hk
  · unfold hdB
    rw [hk, if_neg (by omega), if_neg (by omega), if_neg (by omega)]
    refine Ev_run t_ref10_bytes rfl rfl ?_
    simp (maxSteps := 1000000) (disch := first | omega | (simp only [lens, List.length_map]; omega)) only [go_sem, ↓reduceIte, Nat.reduceSub, Nat.reduceAdd, Nat.reduceMul, Nat.reduceLeDiff, Nat.reduceLT, Nat.reduceEqDiff, Nat.reduceBEq, Int.reduceLE, Int.reduceLT, Int.reduceEq, Int.reduceNeg, Int.reduceAdd, Int.reduceSub, Int.reduceMul, Int.reduceToNat, i_ref10_bytes, h0, hk]
    rw [L_ref10_bytes_0_eq]
    simp (maxSteps := 1000000) (disch := first | omega | (simp only [lens, List.length_map]; omega)) only [go_sem, ↓reduceIte, Nat.reduceSub, Nat.reduceAdd, Nat.reduceMul, Nat.reduceLeDiff, Nat.reduceLT, Nat.reduceEqDiff, Nat.reduceBEq, Int.reduceLE, Int.reduceLT, Int.reduceEq, Int.reduceNeg, Int.reduceAdd, Int.reduceSub, Int.reduceMul, Int.reduceToNat, i_ref10_bytes_b0, h0]
  · have h1 := ref02_Bytes_ev t.digest (by omega)
    have h2 := byts_len t.digest
    unfold hdB
    rw [hk, if_neg (by omega), if_neg (by omega), if_pos rfl]
    generalize byts t.digest = d at *
    refine Ev_run t_ref10_bytes rfl rfl ?_
    simp (maxSteps := 1000000) (disch := first | omega | (simp only [lens, List.length_map]; omega)) only [go_sem, ↓reduceIte, Nat.reduceSub, Nat.reduceAdd, Nat.reduceMul, Nat.reduceLeDiff, Nat.reduceLT, Nat.reduceEqDiff, Nat.reduceBEq, Int.reduceLE, Int.reduceLT, Int.reduceEq, Int.reduceNeg, Int.reduceAdd, Int.reduceSub, Int.reduceMul, Int.reduceToNat, i_ref10_bytes, h0, hk, h1]
    rw [L_ref10_bytes_0_eq]
    simp (maxSteps := 1000000) (disch := first | omega | (simp only [lens, List.length_map]; omega)) only [go_sem, ↓reduceIte, Nat.reduceSub, Nat.reduceAdd, Nat.reduceMul, Nat.reduceLeDiff, Nat.reduceLT, Nat.reduceEqDiff, Nat.reduceBEq, Int.reduceLE, Int.reduceLT, Int.reduceEq, Int.reduceNeg, Int.reduceAdd, Int.reduceSub, Int.reduceMul, Int.reduceToNat, i_ref10_bytes_b0, h0]
theorem rbytes_ev : ∀ t : T, t.formed = true → t.size ≤ 1048576 → Ev tab G0 n_ref10_bytes [avT t] [] = some ([.sl true (eB t.wr)], []) := F_ind
  (fun t hf h hs => by
    have := hd_kind hf
    unfold okT at this
    rw [h] at this
    simp only [List.length_nil] at this
    exact rbytes_0 t h (by omega) hs)
  fun t l r hf h0 hl hr il ir hs => by
    have ho := hd_kind hf
    unfold okT at ho
    rw [h0] at ho
    simp only [List.length_cons, List.length_nil] at ho
    have hk : t.kind = 1 ∨ t.kind = 2 := by omega
    have hz := size_two h0
    have wl := wr_len l hl
    have wr := wr_len r hr
    have k1 := il (by omega)
    have k2 := ir (by omega)
    have h1 := ref02_Bytes_ev t.key (by omega)
    have h2 := byts_len t.key
    rw [wr_two h0]
    generalize l.wr = x at *
    generalize r.wr = y at *
    rcases hk with hk | hk
    · have h3 := ref02_Bytes_ev t.value (by omega)
      have h4 := byts_len t.value
      unfold hdB
      rw [hk, if_pos rfl]
      generalize byts t.key = d at *
      generalize byts t.value = e at *
      refine Ev_run t_ref10_bytes rfl rfl ?_
      simp (maxSteps := 1000000) (disch := first | omega | (simp only [lens, List.length_map]; omega)) only [go_sem, ↓reduceIte, Nat.reduceSub, Nat.reduceAdd, Nat.reduceMul, Nat.reduceLeDiff, Nat.reduceLT, Nat.reduceEqDiff, Nat.reduceBEq, Int.reduceLE, Int.reduceLT, Int.reduceEq, Int.reduceNeg, Int.reduceAdd, Int.reduceSub, Int.reduceMul, Int.reduceToNat, i_ref10_bytes, h0, hk, h1, h3]
      rw [L_ref10_bytes_0_eq]
      simp (maxSteps := 1000000) (disch := first | omega | (simp only [lens, List.length_map]; omega)) only [go_sem, ↓reduceIte, Nat.reduceSub, Nat.reduceAdd, Nat.reduceMul, Nat.reduceLeDiff, Nat.reduceLT, Nat.reduceEqDiff, Nat.reduceBEq, Int.reduceLE, Int.reduceLT, Int.reduceEq, Int.reduceNeg, Int.reduceAdd, Int.reduceSub, Int.reduceMul, Int.reduceToNat, i_ref10_bytes_b0, k1, h0]
      rw [L_ref10_bytes_0_eq]
      simp (maxSteps := 1000000) (disch := first | omega | (simp only [lens, List.length_map]; omega)) only [go_sem, ↓reduceIte, Nat.reduceSub, Nat.reduceAdd, Nat.reduceMul, Nat.reduceLeDiff, Nat.reduceLT, Nat.reduceEqDiff, Nat.reduceBEq, Int.reduceLE, Int.reduceLT, Int.reduceEq, Int.reduceNeg, Int.reduceAdd, Int.reduceSub, Int.reduceMul, Int.reduceToNat, i_ref10_bytes_b0, k2, h0]
      rw [L_ref10_bytes_0_eq]
      simp (maxSteps := 1000000) (disch := first | omega | (simp only [lens, List.length_map]; omega)) only [go_sem, ↓reduceIte, Nat.reduceSub, Nat.reduceAdd, Nat.reduceMul, Nat.reduceLeDiff, Nat.reduceLT, Nat.reduceEqDiff, Nat.reduceBEq, Int.reduceLE, Int.reduceLT, Int.reduceEq, Int.reduceNeg, Int.reduceAdd, Int.reduceSub, Int.reduceMul, Int.reduceToNat, i_ref10_bytes_b0, h0]
    · have h3 := ref02_Bytes_ev t.digest (by omega)
      have h4 := byts_len t.digest
      unfold hdB
      rw [hk, if_neg (by omega), if_pos rfl]
      generalize byts t.key = d at *
      generalize byts t.digest = e at *
      refine Ev_run t_ref10_bytes rfl rfl ?_
      simp (maxSteps := 1000000) (disch := first | omega | (simp only [lens, List.length_map]; omega)) only [go_sem, ↓reduceIte, Nat.reduceSub, Nat.reduceAdd, Nat.reduceMul, Nat.reduceLeDiff, Nat.reduceLT, Nat.reduceEqDiff, Nat.reduceBEq, Int.reduceLE, Int.reduceLT, Int.reduceEq, Int.reduceNeg, Int.reduceAdd, Int.reduceSub, Int.reduceMul, Int.reduceToNat, i_ref10_bytes, h0, hk, h1, h3]
      rw [L_ref10_bytes_0_eq]
      simp (maxSteps := 1000000) (disch := first | omega | (simp only [lens, List.length_map]; omega)) only [go_sem, ↓reduceIte, Nat.reduceSub, Nat.reduceAdd, Nat.reduceMul, Nat.reduceLeDiff, Nat.reduceLT, Nat.reduceEqDiff, Nat.reduceBEq, Int.reduceLE, Int.reduceLT, Int.reduceEq, Int.reduceNeg, Int.reduceAdd, Int.reduceSub, Int.reduceMul, Int.reduceToNat, i_ref10_bytes_b0, k1, h0]
      rw [L_ref10_bytes_0_eq]
      simp (maxSteps := 1000000) (disch := first | omega | (simp only [lens, List.length_map]; omega)) only [go_sem, ↓reduceIte, Nat.reduceSub, Nat.reduceAdd, Nat.reduceMul, Nat.reduceLeDiff, Nat.reduceLT, Nat.reduceEqDiff, Nat.reduceBEq, Int.reduceLE, Int.reduceLT, Int.reduceEq, Int.reduceNeg, Int.reduceAdd, Int.reduceSub, Int.reduceMul, Int.reduceToNat, i_ref10_bytes_b0, k2, h0]
      rw [L_ref10_bytes_0_eq]
      simp (maxSteps := 1000000) (disch := first | omega | (simp only [lens, List.length_map]; omega)) only [go_sem, ↓reduceIte, Nat.reduceSub, Nat.reduceAdd, Nat.reduceMul, Nat.reduceLeDiff, Nat.reduceLT, Nat.reduceEqDiff, Nat.reduceBEq, Int.reduceLE, Int.reduceLT, Int.reduceEq, Int.reduceNeg, Int.reduceAdd, Int.reduceSub, Int.reduceMul, Int.reduceToNat, i_ref10_bytes_b0, h0]

end Go.Proofs.Ytkfaahjcncpmhaa
