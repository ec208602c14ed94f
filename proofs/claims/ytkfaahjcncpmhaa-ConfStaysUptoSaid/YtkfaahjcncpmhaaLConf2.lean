/-
  Members: most of them, one step, their bytes.
-/
import Derived.Test.YtkfaahjcncpmhaaLConf
set_option linter.unusedSimpArgs false
set_option linter.unusedVariables false
set_option maxRecDepth 200000
set_option maxHeartbeats 4000000
namespace Go.Proofs.Ytkfaahjcncpmhaa
open Go.Ev

theorem cnt1_drop {p : Int → Bool} {l : List Int} {i : Nat} (h : i < l.length) : cnt1 p (l.drop i) = bi (p (l.getD i 0)) + cnt1 p (l.drop (i + 1)) := by
  rw [drop_step (d := 0) h, cnt1]
theorem bi_le (b : Bool) : 0 ≤ bi b ∧ bi b ≤ 1 := by cases b <;> decide
theorem cnt1_le (p : Int → Bool) : ∀ l : List Int, 0 ≤ cnt1 p l ∧ cnt1 p l ≤ l.length
  | [] => by simp [cnt1]
  | x :: r => by
    have := cnt1_le p r
    have := bi_le (p x)
    simp only [cnt1, List.length_cons]
    omega
theorem most_loop (l m : List Int) (hl : l.length ≤ 1048576) (hm : m.length ≤ 1048576) : ∀ (n i : Nat) (c : Int), n + i = l.length → 0 ≤ c ∧ c ≤ i → L_conf_Most_0 (s_conf_Most_K0 (.sl true (eI .i64 l)) (.sl true (eI .i64 m)) (i64 c) (.sl true (eI .i64 l)) (i64 l.length) (i64 i) []) = some (.exit 0, s_conf_Most_J0 (.sl true (eI .i64 l)) (i64 (c + cnt1 (fun x => decide (x ∈ m)) (l.drop i))) [])
  | 0, i, c, h, hc => by
    rw [List.drop_of_length_le (by omega), cnt1, L_conf_Most_0_eq]
    have e : c + 0 = c := by omega
    simp (maxSteps := 1000000) (disch := first | omega | (simp only [List.length_cons, List.length_nil, List.length_append, List.length_map, List.length_take, List.length_drop]; omega)) only [go_sem, ↓reduceIte, Nat.reduceSub, Nat.reduceAdd, Nat.reduceMul, Nat.reduceLeDiff, Nat.reduceLT, Nat.reduceEqDiff, Nat.reduceBEq, Int.reduceLE, Int.reduceLT, Int.reduceEq, Int.reduceNeg, Int.reduceAdd, Int.reduceSub, Int.reduceMul, Int.reduceToNat, i_conf_Most_b0, e]
  | n + 1, i, c, h, hc => by
    have h1 := conf_Has_ev m hm (l.getD i 0)
    rw [cnt1_drop (by omega), L_conf_Most_0_eq]
    cases hp : decide (l.getD i 0 ∈ m)
    · rw [hp] at h1
      have ih := most_loop l m hl hm n (i + 1) c (by omega) (by omega)
      have e : bi false = 0 := rfl
      rw [e, Int.zero_add]
      try simp (maxSteps := 1000000) (disch := first | omega | (simp only [List.length_cons, List.length_nil, List.length_append, List.length_map, List.length_take, List.length_drop]; omega)) only [go_sem, ↓reduceIte, Nat.reduceSub, Nat.reduceAdd, Nat.reduceMul, Nat.reduceLeDiff, Nat.reduceLT, Nat.reduceEqDiff, Nat.reduceBEq, Int.reduceLE, Int.reduceLT, Int.reduceEq, Int.reduceNeg, Int.reduceAdd, Int.reduceSub, Int.reduceMul, Int.reduceToNat] at ih
      generalize hd : l.getD i 0 = x at *
      simp (maxSteps := 1000000) (disch := first | omega | (simp only [List.length_cons, List.length_nil, List.length_append, List.length_map, List.length_take, List.length_drop]; omega)) only [go_sem, ↓reduceIte, Nat.reduceSub, Nat.reduceAdd, Nat.reduceMul, Nat.reduceLeDiff, Nat.reduceLT, Nat.reduceEqDiff, Nat.reduceBEq, Int.reduceLE, Int.reduceLT, Int.reduceEq, Int.reduceNeg, Int.reduceAdd, Int.reduceSub, Int.reduceMul, Int.reduceToNat, i_conf_Most_b0, hd, h1, ih]
    · rw [hp] at h1
      have ih := most_loop l m hl hm n (i + 1) (c + 1) (by omega) (by omega)
      have e : bi true = 1 := rfl
      rw [e, ← Int.add_assoc]
      try simp (maxSteps := 1000000) (disch := first | omega | (simp only [List.length_cons, List.length_nil, List.length_append, List.length_map, List.length_take, List.length_drop]; omega)) only [go_sem, ↓reduceIte, Nat.reduceSub, Nat.reduceAdd, Nat.reduceMul, Nat.reduceLeDiff, Nat.reduceLT, Nat.reduceEqDiff, Nat.reduceBEq, Int.reduceLE, Int.reduceLT, Int.reduceEq, Int.reduceNeg, Int.reduceAdd, Int.reduceSub, Int.reduceMul, Int.reduceToNat] at ih
      generalize hd : l.getD i 0 = x at *
      simp (maxSteps := 1000000) (disch := first | omega | (simp only [List.length_cons, List.length_nil, List.length_append, List.length_map, List.length_take, List.length_drop]; omega)) only [go_sem, ↓reduceIte, Nat.reduceSub, Nat.reduceAdd, Nat.reduceMul, Nat.reduceLeDiff, Nat.reduceLT, Nat.reduceEqDiff, Nat.reduceBEq, Int.reduceLE, Int.reduceLT, Int.reduceEq, Int.reduceNeg, Int.reduceAdd, Int.reduceSub, Int.reduceMul, Int.reduceToNat, i_conf_Most_b0, hd, h1, ih]
theorem conf_Most_ev (l m : List Int) (hl : l.length ≤ 1048576) (hm : m.length ≤ 1048576) : Ev tab G0 n_conf_Most [.sl true (eI .i64 l), .sl true (eI .i64 m)] [] = some ([bo (mostP l m)], []) := by
  have h := most_loop l m hl hm l.length 0 0 (by omega) (by omega)
  have h1 := conf_May_ev l hl
  have e0 : ((0 : Nat) : Int) = 0 := rfl
  rw [e0, List.drop_zero, Int.zero_add] at h
  have hc := cnt1_le (fun x => decide (x ∈ m)) l
  unfold mostP
  generalize cnt1 (fun x => decide (x ∈ m)) l = c at *
  refine Ev_run t_conf_Most rfl rfl ?_
  cases hy : may l
  · rw [hy] at h1
    rw [Bool.false_and]
    simp (maxSteps := 1000000) (disch := first | omega | (simp only [List.length_cons, List.length_nil, List.length_append, List.length_map, List.length_take, List.length_drop]; omega)) only [go_sem, ↓reduceIte, Nat.reduceSub, Nat.reduceAdd, Nat.reduceMul, Nat.reduceLeDiff, Nat.reduceLT, Nat.reduceEqDiff, Nat.reduceBEq, Int.reduceLE, Int.reduceLT, Int.reduceEq, Int.reduceNeg, Int.reduceAdd, Int.reduceSub, Int.reduceMul, Int.reduceToNat, i_conf_Most, h, h1]
  · rw [hy] at h1
    rw [Bool.true_and]
    simp (maxSteps := 1000000) (disch := first | omega | (simp only [List.length_cons, List.length_nil, List.length_append, List.length_map, List.length_take, List.length_drop]; omega)) only [go_sem, ↓reduceIte, Nat.reduceSub, Nat.reduceAdd, Nat.reduceMul, Nat.reduceLeDiff, Nat.reduceLT, Nat.reduceEqDiff, Nat.reduceBEq, Int.reduceLE, Int.reduceLT, Int.reduceEq, Int.reduceNeg, Int.reduceAdd, Int.reduceSub, Int.reduceMul, Int.reduceToNat, i_conf_Most, h, h1]
/-! ### One step -/
theorem Step1_ev (b : List Int) (hb : b.length ≤ 1048576) (x : Int) : Ev tab G0 n_conf_Step_1 [i64 x, .ptr 0 0] [.var [.sl true (eI .i64 b)]] = some ([bo (!decide (x ∈ b))], [.var [.sl true (eI .i64 b)]]) := by
  have h1 := conf_Has_ev b hb x
  generalize decide (x ∈ b) = c at *
  refine Ev_run t_conf_Step_1 rfl rfl ?_
  simp (maxSteps := 1000000) (disch := first | omega | (simp only [List.length_cons, List.length_nil, List.length_append, List.length_map, List.length_take, List.length_drop]; omega)) only [go_sem, ↓reduceIte, Nat.reduceSub, Nat.reduceAdd, Nat.reduceMul, Nat.reduceLeDiff, Nat.reduceLT, Nat.reduceEqDiff, Nat.reduceBEq, Int.reduceLE, Int.reduceLT, Int.reduceEq, Int.reduceNeg, Int.reduceAdd, Int.reduceSub, Int.reduceMul, Int.reduceToNat, i_conf_Step_1, h1]
theorem idxI (f : Nat) (hf : (f < 1000000) = True) (hc : ∀ l, cArgs tab f l = canonA [] l) (b : List Int) (p : Int → Bool) (l : List Int) (hl : l.length ≤ 1048576) (hk : ∀ k, Ev tab G0 f [i64 k, .ptr 0 0] [.var [.sl true (eI .i64 b)]] = some ([bo (p k)], [.var [.sl true (eI .i64 b)]])) : ∀ (n i : Nat), n + i = l.length →
    ((l.drop i).any p = false → L_slices_IndexFunc_sl_int_int_0 (s_slices_IndexFunc_sl_int_int_K0 (.sl true (eI .i64 l)) (.clos f [.ptr 0 0]) (i64 l.length) (i64 i) [some (.var [.sl true (eI .i64 b)])]) = some (.exit 0, s_slices_IndexFunc_sl_int_int_J0 [some (.var [.sl true (eI .i64 b)])])) ∧
    ((l.drop i).any p = true → ∃ j : Nat, L_slices_IndexFunc_sl_int_int_0 (s_slices_IndexFunc_sl_int_int_K0 (.sl true (eI .i64 l)) (.clos f [.ptr 0 0]) (i64 l.length) (i64 i) [some (.var [.sl true (eI .i64 b)])]) = some (.ret, s_slices_IndexFunc_sl_int_int_R (i64 j) [some (.var [.sl true (eI .i64 b)])]))
  | 0, i, h => by
    rw [List.drop_of_length_le (by omega)]
    refine ⟨fun _ => ?_, fun h => by simp at h⟩
    rw [L_slices_IndexFunc_sl_int_int_0_eq]
    simp (maxSteps := 1000000) (disch := first | omega | (simp only [List.length_cons, List.length_nil, List.length_append, List.length_map, List.length_take, List.length_drop]; omega)) only [go_sem, ↓reduceIte, Nat.reduceSub, Nat.reduceAdd, Nat.reduceMul, Nat.reduceLeDiff, Nat.reduceLT, Nat.reduceEqDiff, Nat.reduceBEq, Int.reduceLE, Int.reduceLT, Int.reduceEq, Int.reduceNeg, Int.reduceAdd, Int.reduceSub, Int.reduceMul, Int.reduceToNat, i_slices_IndexFunc_sl_int_int_b0]
  | n + 1, i, h => by
    obtain ⟨ih1, ih2⟩ := idxI f hf hc b p l hl hk n (i + 1) (by omega)
    have h1 := hk (l.getD i 0)
    rw [drop_step (d := 0) (by omega), List.any_cons]
    generalize hd : l.getD i 0 = k at *
    cases hp : p k
    · rw [hp] at h1
      simp only [Bool.false_or]
      refine ⟨fun hn => ?_, fun hn => ?_⟩
      · have ih := ih1 hn
        try simp (maxSteps := 1000000) (disch := first | omega | (simp only [List.length_cons, List.length_nil, List.length_append, List.length_map, List.length_take, List.length_drop]; omega)) only [go_sem, ↓reduceIte, Nat.reduceSub, Nat.reduceAdd, Nat.reduceMul, Nat.reduceLeDiff, Nat.reduceLT, Nat.reduceEqDiff, Nat.reduceBEq, Int.reduceLE, Int.reduceLT, Int.reduceEq, Int.reduceNeg, Int.reduceAdd, Int.reduceSub, Int.reduceMul, Int.reduceToNat] at ih
        rw [L_slices_IndexFunc_sl_int_int_0_eq]
        simp (maxSteps := 1000000) (disch := first | omega | (simp only [List.length_cons, List.length_nil, List.length_append, List.length_map, List.length_take, List.length_drop]; omega)) only [go_sem, ↓reduceIte, Nat.reduceSub, Nat.reduceAdd, Nat.reduceMul, Nat.reduceLeDiff, Nat.reduceLT, Nat.reduceEqDiff, Nat.reduceBEq, Int.reduceLE, Int.reduceLT, Int.reduceEq, Int.reduceNeg, Int.reduceAdd, Int.reduceSub, Int.reduceMul, Int.reduceToNat, i_slices_IndexFunc_sl_int_int_b0, hf, hc, hd, h1, ih]
      · obtain ⟨j, ih⟩ := ih2 hn
        refine ⟨j, ?_⟩
        try simp (maxSteps := 1000000) (disch := first | omega | (simp only [List.length_cons, List.length_nil, List.length_append, List.length_map, List.length_take, List.length_drop]; omega)) only [go_sem, ↓reduceIte, Nat.reduceSub, Nat.reduceAdd, Nat.reduceMul, Nat.reduceLeDiff, Nat.reduceLT, Nat.reduceEqDiff, Nat.reduceBEq, Int.reduceLE, Int.reduceLT, Int.reduceEq, Int.reduceNeg, Int.reduceAdd, Int.reduceSub, Int.reduceMul, Int.reduceToNat] at ih
        rw [L_slices_IndexFunc_sl_int_int_0_eq]
        simp (maxSteps := 1000000) (disch := first | omega | (simp only [List.length_cons, List.length_nil, List.length_append, List.length_map, List.length_take, List.length_drop]; omega)) only [go_sem, ↓reduceIte, Nat.reduceSub, Nat.reduceAdd, Nat.reduceMul, Nat.reduceLeDiff, Nat.reduceLT, Nat.reduceEqDiff, Nat.reduceBEq, Int.reduceLE, Int.reduceLT, Int.reduceEq, Int.reduceNeg, Int.reduceAdd, Int.reduceSub, Int.reduceMul, Int.reduceToNat, i_slices_IndexFunc_sl_int_int_b0, hf, hc, hd, h1, ih]
    · rw [hp] at h1
      simp only [Bool.true_or]
      refine ⟨fun hn => by simp at hn, fun _ => ⟨i, ?_⟩⟩
      rw [L_slices_IndexFunc_sl_int_int_0_eq]
      simp (maxSteps := 1000000) (disch := first | omega | (simp only [List.length_cons, List.length_nil, List.length_append, List.length_map, List.length_take, List.length_drop]; omega)) only [go_sem, ↓reduceIte, Nat.reduceSub, Nat.reduceAdd, Nat.reduceMul, Nat.reduceLeDiff, Nat.reduceLT, Nat.reduceEqDiff, Nat.reduceBEq, Int.reduceLE, Int.reduceLT, Int.reduceEq, Int.reduceNeg, Int.reduceAdd, Int.reduceSub, Int.reduceMul, Int.reduceToNat, i_slices_IndexFunc_sl_int_int_b0, hf, hc, hd, h1]
theorem ContainsI (f : Nat) (hf : (f < 1000000) = True) (hc : ∀ l, cArgs tab f l = canonA [] l) (b : List Int) (p : Int → Bool) (l : List Int) (hl : l.length ≤ 1048576) (hk : ∀ k, Ev tab G0 f [i64 k, .ptr 0 0] [.var [.sl true (eI .i64 b)]] = some ([bo (p k)], [.var [.sl true (eI .i64 b)]])) : Ev tab G0 n_slices_ContainsFunc_sl_int_int [.sl true (eI .i64 l), .clos f [.ptr 0 0]] [.var [.sl true (eI .i64 b)]] = some ([bo (l.any p)], [.var [.sl true (eI .i64 b)]]) := by
  obtain ⟨h1, h2⟩ := idxI f hf hc b p l hl hk l.length 0 (by omega)
  have e0 : ((0 : Nat) : Int) = 0 := rfl
  rw [List.drop_zero] at h1 h2
  cases hp : l.any p
  · have h := h1 hp
    rw [e0] at h
    have hi : Ev tab G0 n_slices_IndexFunc_sl_int_int [.sl true (eI .i64 l), .clos f [.ptr 0 0]] [.var [.sl true (eI .i64 b)]] = some ([i64 (-1)], [.var [.sl true (eI .i64 b)]]) := by
      refine Ev_run t_slices_IndexFunc_sl_int_int rfl rfl ?_
      simp (maxSteps := 1000000) (disch := first | omega | (simp only [List.length_cons, List.length_nil, List.length_append, List.length_map, List.length_take, List.length_drop]; omega)) only [go_sem, ↓reduceIte, Nat.reduceSub, Nat.reduceAdd, Nat.reduceMul, Nat.reduceLeDiff, Nat.reduceLT, Nat.reduceEqDiff, Nat.reduceBEq, Int.reduceLE, Int.reduceLT, Int.reduceEq, Int.reduceNeg, Int.reduceAdd, Int.reduceSub, Int.reduceMul, Int.reduceToNat, i_slices_IndexFunc_sl_int_int, h]
    refine Ev_run t_slices_ContainsFunc_sl_int_int rfl rfl ?_
    simp (maxSteps := 1000000) (disch := first | omega | (simp only [List.length_cons, List.length_nil, List.length_append, List.length_map, List.length_take, List.length_drop]; omega)) only [go_sem, ↓reduceIte, Nat.reduceSub, Nat.reduceAdd, Nat.reduceMul, Nat.reduceLeDiff, Nat.reduceLT, Nat.reduceEqDiff, Nat.reduceBEq, Int.reduceLE, Int.reduceLT, Int.reduceEq, Int.reduceNeg, Int.reduceAdd, Int.reduceSub, Int.reduceMul, Int.reduceToNat, i_slices_ContainsFunc_sl_int_int, hi]
  · obtain ⟨j, h⟩ := h2 hp
    rw [e0] at h
    have hi : Ev tab G0 n_slices_IndexFunc_sl_int_int [.sl true (eI .i64 l), .clos f [.ptr 0 0]] [.var [.sl true (eI .i64 b)]] = some ([i64 j], [.var [.sl true (eI .i64 b)]]) := by
      refine Ev_run t_slices_IndexFunc_sl_int_int rfl rfl ?_
      simp (maxSteps := 1000000) (disch := first | omega | (simp only [List.length_cons, List.length_nil, List.length_append, List.length_map, List.length_take, List.length_drop]; omega)) only [go_sem, ↓reduceIte, Nat.reduceSub, Nat.reduceAdd, Nat.reduceMul, Nat.reduceLeDiff, Nat.reduceLT, Nat.reduceEqDiff, Nat.reduceBEq, Int.reduceLE, Int.reduceLT, Int.reduceEq, Int.reduceNeg, Int.reduceAdd, Int.reduceSub, Int.reduceMul, Int.reduceToNat, i_slices_IndexFunc_sl_int_int, h]
    refine Ev_run t_slices_ContainsFunc_sl_int_int rfl rfl ?_
    simp (maxSteps := 1000000) (disch := first | omega | (simp only [List.length_cons, List.length_nil, List.length_append, List.length_map, List.length_take, List.length_drop]; omega)) only [go_sem, ↓reduceIte, Nat.reduceSub, Nat.reduceAdd, Nat.reduceMul, Nat.reduceLeDiff, Nat.reduceLT, Nat.reduceEqDiff, Nat.reduceBEq, Int.reduceLE, Int.reduceLT, Int.reduceEq, Int.reduceNeg, Int.reduceAdd, Int.reduceSub, Int.reduceMul, Int.reduceToNat, i_slices_ContainsFunc_sl_int_int, hi]
theorem all_any (a b : List Int) : (!(a.any fun x => !decide (x ∈ b))) = a.all fun x => decide (x ∈ b) := by
  induction a with
  | nil => rfl
  | cons x a ih => simp only [List.any_cons, List.all_cons, Bool.not_or, Bool.not_not, ih]
theorem conf_Step_ev (a b : List Int) (ha : a.length ≤ 1048576) (hb : b.length ≤ 1048576) : Ev tab G0 n_conf_Step [.sl true (eI .i64 a), .sl true (eI .i64 b)] [] = some ([bo (stepP a b)], []) := by
  refine Ev_run t_conf_Step rfl rfl ?_
  unfold stepP step1
  have ma := conf_May_ev a ha
  have mb := conf_May_ev b hb
  have hf : (n_conf_Step_1 < 1000000) = True := by decide
  by_cases hs : b.length < a.length
  · rw [if_pos hs]
    have hc := ContainsI n_conf_Step_1 hf (fun l => rfl) a (fun x => !decide (x ∈ a)) b hb (Step1_ev a ha)
    rw [← all_any]
    generalize (b.any fun x => !decide (x ∈ a)) = q at *
    have el : decide ((a.length : Int) = (b.length : Int) + 1) = decide (a.length = b.length + 1) := by
      apply decide_eq_decide.2
      omega
    cases h1 : may b
    · rw [h1] at mb
      simp only [Bool.false_and]
      simp (maxSteps := 1000000) (disch := first | omega | (simp only [List.length_cons, List.length_nil, List.length_append, List.length_map, List.length_take, List.length_drop]; omega)) only [go_sem, ↓reduceIte, Nat.reduceSub, Nat.reduceAdd, Nat.reduceMul, Nat.reduceLeDiff, Nat.reduceLT, Nat.reduceEqDiff, Nat.reduceBEq, Int.reduceLE, Int.reduceLT, Int.reduceEq, Int.reduceNeg, Int.reduceAdd, Int.reduceSub, Int.reduceMul, Int.reduceToNat, i_conf_Step, mb]
    · rw [h1] at mb
      cases h2 : may a
      · rw [h2] at ma
        simp only [Bool.true_and, Bool.false_and]
        simp (maxSteps := 1000000) (disch := first | omega | (simp only [List.length_cons, List.length_nil, List.length_append, List.length_map, List.length_take, List.length_drop]; omega)) only [go_sem, ↓reduceIte, Nat.reduceSub, Nat.reduceAdd, Nat.reduceMul, Nat.reduceLeDiff, Nat.reduceLT, Nat.reduceEqDiff, Nat.reduceBEq, Int.reduceLE, Int.reduceLT, Int.reduceEq, Int.reduceNeg, Int.reduceAdd, Int.reduceSub, Int.reduceMul, Int.reduceToNat, i_conf_Step, ma, mb]
      · rw [h2] at ma
        simp only [Bool.true_and]
        by_cases h3 : a.length = b.length + 1
        · rw [decide_eq_true h3, Bool.true_and]
          simp (maxSteps := 1000000) (disch := first | omega | (simp only [List.length_cons, List.length_nil, List.length_append, List.length_map, List.length_take, List.length_drop]; omega)) only [go_sem, ↓reduceIte, Nat.reduceSub, Nat.reduceAdd, Nat.reduceMul, Nat.reduceLeDiff, Nat.reduceLT, Nat.reduceEqDiff, Nat.reduceBEq, Int.reduceLE, Int.reduceLT, Int.reduceEq, Int.reduceNeg, Int.reduceAdd, Int.reduceSub, Int.reduceMul, Int.reduceToNat, i_conf_Step, ma, mb, hc]
        · rw [decide_eq_false h3, Bool.false_and]
          simp (maxSteps := 1000000) (disch := first | omega | (simp only [List.length_cons, List.length_nil, List.length_append, List.length_map, List.length_take, List.length_drop]; omega)) only [go_sem, ↓reduceIte, Nat.reduceSub, Nat.reduceAdd, Nat.reduceMul, Nat.reduceLeDiff, Nat.reduceLT, Nat.reduceEqDiff, Nat.reduceBEq, Int.reduceLE, Int.reduceLT, Int.reduceEq, Int.reduceNeg, Int.reduceAdd, Int.reduceSub, Int.reduceMul, Int.reduceToNat, i_conf_Step, ma, mb]
  · rw [if_neg hs]
    have hc := ContainsI n_conf_Step_1 hf (fun l => rfl) b (fun x => !decide (x ∈ b)) a ha (Step1_ev b hb)
    rw [← all_any]
    generalize (a.any fun x => !decide (x ∈ b)) = q at *
    cases h1 : may a
    · rw [h1] at ma
      simp only [Bool.false_and]
      simp (maxSteps := 1000000) (disch := first | omega | (simp only [List.length_cons, List.length_nil, List.length_append, List.length_map, List.length_take, List.length_drop]; omega)) only [go_sem, ↓reduceIte, Nat.reduceSub, Nat.reduceAdd, Nat.reduceMul, Nat.reduceLeDiff, Nat.reduceLT, Nat.reduceEqDiff, Nat.reduceBEq, Int.reduceLE, Int.reduceLT, Int.reduceEq, Int.reduceNeg, Int.reduceAdd, Int.reduceSub, Int.reduceMul, Int.reduceToNat, i_conf_Step, ma]
    · rw [h1] at ma
      cases h2 : may b
      · rw [h2] at mb
        simp only [Bool.true_and, Bool.false_and]
        simp (maxSteps := 1000000) (disch := first | omega | (simp only [List.length_cons, List.length_nil, List.length_append, List.length_map, List.length_take, List.length_drop]; omega)) only [go_sem, ↓reduceIte, Nat.reduceSub, Nat.reduceAdd, Nat.reduceMul, Nat.reduceLeDiff, Nat.reduceLT, Nat.reduceEqDiff, Nat.reduceBEq, Int.reduceLE, Int.reduceLT, Int.reduceEq, Int.reduceNeg, Int.reduceAdd, Int.reduceSub, Int.reduceMul, Int.reduceToNat, i_conf_Step, ma, mb]
      · rw [h2] at mb
        simp only [Bool.true_and]
        by_cases h3 : b.length = a.length + 1
        · rw [decide_eq_true h3, Bool.true_and]
          simp (maxSteps := 1000000) (disch := first | omega | (simp only [List.length_cons, List.length_nil, List.length_append, List.length_map, List.length_take, List.length_drop]; omega)) only [go_sem, ↓reduceIte, Nat.reduceSub, Nat.reduceAdd, Nat.reduceMul, Nat.reduceLeDiff, Nat.reduceLT, Nat.reduceEqDiff, Nat.reduceBEq, Int.reduceLE, Int.reduceLT, Int.reduceEq, Int.reduceNeg, Int.reduceAdd, Int.reduceSub, Int.reduceMul, Int.reduceToNat, i_conf_Step, ma, mb, hc]
        · rw [decide_eq_false h3, Bool.false_and]
          simp (maxSteps := 1000000) (disch := first | omega | (simp only [List.length_cons, List.length_nil, List.length_append, List.length_map, List.length_take, List.length_drop]; omega)) only [go_sem, ↓reduceIte, Nat.reduceSub, Nat.reduceAdd, Nat.reduceMul, Nat.reduceLeDiff, Nat.reduceLT, Nat.reduceEqDiff, Nat.reduceBEq, Int.reduceLE, Int.reduceLT, Int.reduceEq, Int.reduceNeg, Int.reduceAdd, Int.reduceSub, Int.reduceMul, Int.reduceToNat, i_conf_Step, ma, mb]
/-! ### The same? -/
theorem eq_drop {a b : List Int} {i : Nat} (ha : i < a.length) (hb : i < b.length) : decide (a.drop i = b.drop i) = (decide (a.getD i 0 = b.getD i 0) && decide (a.drop (i + 1) = b.drop (i + 1))) := by
  rw [drop_step (l := a) (d := 0) ha, drop_step (l := b) (d := 0) hb, Bool.eq_iff_iff]
  simp only [List.cons.injEq, decide_eq_true_eq, Bool.and_eq_true]
theorem isame_loop (a b : List Int) (ha : a.length ≤ 1048576) (hl : a.length = b.length) : ∀ (n i : Nat), n + i = a.length → L_ref17_Same_0 (s_ref17_Same_K0 (.sl true (eI .i64 a)) (.sl true (eI .i64 b)) (i64 i) []) = if decide (a.drop i = b.drop i) = true then some (.exit 0, s_ref17_Same_J0 []) else some (.ret, s_ref17_Same_R (bo false) [])
  | 0, i, h => by
    rw [List.drop_of_length_le (by omega), List.drop_of_length_le (by omega), if_pos (by simp), L_ref17_Same_0_eq]
    simp (maxSteps := 1000000) (disch := first | omega | (simp only [List.length_cons, List.length_nil, List.length_append, List.length_map, List.length_take, List.length_drop]; omega)) only [go_sem, ↓reduceIte, Nat.reduceSub, Nat.reduceAdd, Nat.reduceMul, Nat.reduceLeDiff, Nat.reduceLT, Nat.reduceEqDiff, Nat.reduceBEq, Int.reduceLE, Int.reduceLT, Int.reduceEq, Int.reduceNeg, Int.reduceAdd, Int.reduceSub, Int.reduceMul, Int.reduceToNat, i_ref17_Same_b0]
  | n + 1, i, h => by
    have ih := isame_loop a b ha hl n (i + 1) (by omega)
    rw [eq_drop (by omega) (by omega), L_ref17_Same_0_eq]
    generalize hd : a.getD i 0 = x at *
    generalize hd2 : b.getD i 0 = y at *
    try simp (maxSteps := 1000000) (disch := first | omega | (simp only [List.length_cons, List.length_nil, List.length_append, List.length_map, List.length_take, List.length_drop]; omega)) only [go_sem, ↓reduceIte, Nat.reduceSub, Nat.reduceAdd, Nat.reduceMul, Nat.reduceLeDiff, Nat.reduceLT, Nat.reduceEqDiff, Nat.reduceBEq, Int.reduceLE, Int.reduceLT, Int.reduceEq, Int.reduceNeg, Int.reduceAdd, Int.reduceSub, Int.reduceMul, Int.reduceToNat] at ih
    by_cases c : x = y
    · rw [decide_eq_true c, Bool.true_and]
      simp (maxSteps := 1000000) (disch := first | omega | (simp only [List.length_cons, List.length_nil, List.length_append, List.length_map, List.length_take, List.length_drop]; omega)) only [go_sem, ↓reduceIte, Nat.reduceSub, Nat.reduceAdd, Nat.reduceMul, Nat.reduceLeDiff, Nat.reduceLT, Nat.reduceEqDiff, Nat.reduceBEq, Int.reduceLE, Int.reduceLT, Int.reduceEq, Int.reduceNeg, Int.reduceAdd, Int.reduceSub, Int.reduceMul, Int.reduceToNat, i_ref17_Same_b0, hd, hd2, c, ih]
    · rw [decide_eq_false c, Bool.false_and, if_neg (by simp)]
      simp (maxSteps := 1000000) (disch := first | omega | (simp only [List.length_cons, List.length_nil, List.length_append, List.length_map, List.length_take, List.length_drop]; omega)) only [go_sem, ↓reduceIte, Nat.reduceSub, Nat.reduceAdd, Nat.reduceMul, Nat.reduceLeDiff, Nat.reduceLT, Nat.reduceEqDiff, Nat.reduceBEq, Int.reduceLE, Int.reduceLT, Int.reduceEq, Int.reduceNeg, Int.reduceAdd, Int.reduceSub, Int.reduceMul, Int.reduceToNat, i_ref17_Same_b0, hd, hd2, c]
theorem ref17_Same_ev (a b : List Int) (ha : a.length ≤ 1048576) (hb : b.length ≤ 1048576) : Ev tab G0 n_ref17_Same [.sl true (eI .i64 a), .sl true (eI .i64 b)] [] = some ([bo (decide (a = b))], []) := by
  refine Ev_run t_ref17_Same rfl rfl ?_
  by_cases hl : a.length = b.length
  · have h := isame_loop a b ha hl a.length 0 (by omega)
    have e0 : ((0 : Nat) : Int) = 0 := rfl
    rw [e0, List.drop_zero, List.drop_zero] at h
    cases hm : decide (a = b)
    · rw [hm, if_neg (by simp)] at h
      simp (maxSteps := 1000000) (disch := first | omega | (simp only [List.length_cons, List.length_nil, List.length_append, List.length_map, List.length_take, List.length_drop]; omega)) only [go_sem, ↓reduceIte, Nat.reduceSub, Nat.reduceAdd, Nat.reduceMul, Nat.reduceLeDiff, Nat.reduceLT, Nat.reduceEqDiff, Nat.reduceBEq, Int.reduceLE, Int.reduceLT, Int.reduceEq, Int.reduceNeg, Int.reduceAdd, Int.reduceSub, Int.reduceMul, Int.reduceToNat, i_ref17_Same, h]
    · rw [hm, if_pos rfl] at h
      simp (maxSteps := 1000000) (disch := first | omega | (simp only [List.length_cons, List.length_nil, List.length_append, List.length_map, List.length_take, List.length_drop]; omega)) only [go_sem, ↓reduceIte, Nat.reduceSub, Nat.reduceAdd, Nat.reduceMul, Nat.reduceLeDiff, Nat.reduceLT, Nat.reduceEqDiff, Nat.reduceBEq, Int.reduceLE, Int.reduceLT, Int.reduceEq, Int.reduceNeg, Int.reduceAdd, Int.reduceSub, Int.reduceMul, Int.reduceToNat, i_ref17_Same, h]
  · have : ¬ a = b := fun h => hl (by rw [h])
    rw [decide_eq_false this]
    simp (maxSteps := 1000000) (disch := first | omega | (simp only [List.length_cons, List.length_nil, List.length_append, List.length_map, List.length_take, List.length_drop]; omega)) only [go_sem, ↓reduceIte, Nat.reduceSub, Nat.reduceAdd, Nat.reduceMul, Nat.reduceLeDiff, Nat.reduceLT, Nat.reduceEqDiff, Nat.reduceBEq, Int.reduceLE, Int.reduceLT, Int.reduceEq, Int.reduceNeg, Int.reduceAdd, Int.reduceSub, Int.reduceMul, Int.reduceToNat, i_ref17_Same]
theorem up17_ev : Ev tab G0 n_law17_up [] [] = some ([bo true], []) := Ev_by 40 (by kernel_rfl)

end Go.Proofs.Ytkfaahjcncpmhaa
