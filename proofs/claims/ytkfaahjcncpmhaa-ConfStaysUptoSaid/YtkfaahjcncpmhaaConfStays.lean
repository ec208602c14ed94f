/-
  What is handed in stays; what was told stays: the law.
-/
import Derived.Test.YtkfaahjcncpmhaaConfBytes
set_option linter.unusedSimpArgs false
set_option linter.unusedVariables false
set_option maxRecDepth 200000
set_option maxHeartbeats 4000000
namespace Go.Proofs.Ytkfaahjcncpmhaa
open Go.Ev

theorem bytes_loopV (l : List Int) (hl : l.length ≤ 1048576) : ∀ (n i : Nat) (acc : List UInt8), n + i = l.length → acc.length ≤ i → L_conf_Bytes_v1_0 (s_conf_Bytes_v1_K0 (rbA acc) (.sl true (eI .i64 l)) (i64 l.length) (i64 i) [rbO acc]) = some (.exit 0, s_conf_Bytes_v1_J0 (rbA (acc ++ (l.drop i).map byt)) [rbO (acc ++ (l.drop i).map byt)])
  | 0, i, acc, h, ha => by
    rw [List.drop_of_length_le (by omega), L_conf_Bytes_v1_0_eq, List.map_nil, List.append_nil]
    cases acc with
    | nil =>
      simp only [rbA_nil, rbO_nil, rbA_cons, rbO_cons]
      simp (maxSteps := 1000000) (disch := first | omega | (simp only [List.length_cons, List.length_nil, List.length_append, List.length_map, List.length_take, List.length_drop]; omega)) only [go_sem, ↓reduceIte, Nat.reduceSub, Nat.reduceAdd, Nat.reduceMul, Nat.reduceLeDiff, Nat.reduceLT, Nat.reduceEqDiff, Nat.reduceBEq, Int.reduceLE, Int.reduceLT, Int.reduceEq, Int.reduceNeg, Int.reduceAdd, Int.reduceSub, Int.reduceMul, Int.reduceToNat, i_conf_Bytes_v1_b0]
    | cons x acc =>
      simp only [rbA_nil, rbO_nil, rbA_cons, rbO_cons]
      simp (maxSteps := 1000000) (disch := first | omega | (simp only [List.length_cons, List.length_nil, List.length_append, List.length_map, List.length_take, List.length_drop]; omega)) only [go_sem, ↓reduceIte, Nat.reduceSub, Nat.reduceAdd, Nat.reduceMul, Nat.reduceLeDiff, Nat.reduceLT, Nat.reduceEqDiff, Nat.reduceBEq, Int.reduceLE, Int.reduceLT, Int.reduceEq, Int.reduceNeg, Int.reduceAdd, Int.reduceSub, Int.reduceMul, Int.reduceToNat, i_conf_Bytes_v1_b0]
  | n + 1, i, acc, h, ha => by
    have ih := bytes_loopV l hl n (i + 1) (acc ++ [byt (l.getD i 0)]) (by omega) (by simp; omega)
    rw [drop_step (d := 0) (by omega), List.map_cons, L_conf_Bytes_v1_0_eq]
    rw [List.append_assoc, List.singleton_append] at ih
    generalize hd : l.getD i 0 = y at *
    generalize acc ++ byt y :: (l.drop (i + 1)).map byt = r at *
    cases acc with
    | nil =>
      simp only [rbA_nil, rbO_nil, rbA_cons, rbO_cons, List.nil_append] at ih ⊢
      try simp (maxSteps := 1000000) (disch := first | omega | (simp only [List.length_cons, List.length_nil, List.length_append, List.length_map, List.length_take, List.length_drop]; omega)) only [go_sem, ↓reduceIte, Nat.reduceSub, Nat.reduceAdd, Nat.reduceMul, Nat.reduceLeDiff, Nat.reduceLT, Nat.reduceEqDiff, Nat.reduceBEq, Int.reduceLE, Int.reduceLT, Int.reduceEq, Int.reduceNeg, Int.reduceAdd, Int.reduceSub, Int.reduceMul, Int.reduceToNat] at ih
      simp (maxSteps := 1000000) (disch := first | omega | (simp only [List.length_cons, List.length_nil, List.length_append, List.length_map, List.length_take, List.length_drop]; omega)) only [go_sem, ↓reduceIte, Nat.reduceSub, Nat.reduceAdd, Nat.reduceMul, Nat.reduceLeDiff, Nat.reduceLT, Nat.reduceEqDiff, Nat.reduceBEq, Int.reduceLE, Int.reduceLT, Int.reduceEq, Int.reduceNeg, Int.reduceAdd, Int.reduceSub, Int.reduceMul, Int.reduceToNat, i_conf_Bytes_v1_b0, hd, ih, eB_emp]
    | cons x acc =>
      simp only [List.length_cons] at ha
      simp only [rbA_cons, rbO_cons, List.cons_append] at ih ⊢
      try simp (maxSteps := 1000000) (disch := first | omega | (simp only [List.length_cons, List.length_nil, List.length_append, List.length_map, List.length_take, List.length_drop]; omega)) only [go_sem, ↓reduceIte, Nat.reduceSub, Nat.reduceAdd, Nat.reduceMul, Nat.reduceLeDiff, Nat.reduceLT, Nat.reduceEqDiff, Nat.reduceBEq, Int.reduceLE, Int.reduceLT, Int.reduceEq, Int.reduceNeg, Int.reduceAdd, Int.reduceSub, Int.reduceMul, Int.reduceToNat] at ih
      simp (maxSteps := 1000000) (disch := first | omega | (simp only [List.length_cons, List.length_nil, List.length_append, List.length_map, List.length_take, List.length_drop]; omega)) only [go_sem, ↓reduceIte, Nat.reduceSub, Nat.reduceAdd, Nat.reduceMul, Nat.reduceLeDiff, Nat.reduceLT, Nat.reduceEqDiff, Nat.reduceBEq, Int.reduceLE, Int.reduceLT, Int.reduceEq, Int.reduceNeg, Int.reduceAdd, Int.reduceSub, Int.reduceMul, Int.reduceToNat, i_conf_Bytes_v1_b0, hd, ih, eB_emp]
theorem may_ne {l : List Int} (h : may l = true) : ∃ x r, l = x :: r := by
  cases l with
  | nil => cases h
  | cons x r => exact ⟨x, r, rfl⟩
theorem conf_Bytes_v1_t (l : List Int) (hl : l.length ≤ 1048576) (hm : may l = true) : Ev tab G0 n_conf_Bytes_v1 [.sl true (eI .i64 l)] [] = some ([.row 0 (l.map byt).length, .s .nilIface], [.row ty_uint8 1 true false (eB (l.map byt))]) := by
  have h1 := conf_May_ev l hl
  have h := bytes_loopV l hl l.length 0 [] (by omega) (by simp)
  have e0 : ((0 : Nat) : Int) = 0 := rfl
  rw [e0, List.drop_zero, List.nil_append, rbA_nil, rbO_nil] at h
  rw [hm] at h1
  obtain ⟨x, r, hr⟩ := may_ne hm
  rw [show l.map byt = byt x :: r.map byt from by rw [hr]; rfl] at h ⊢
  rw [rbA_cons, rbO_cons] at h
  refine Ev_run t_conf_Bytes_v1 rfl rfl ?_
  simp (maxSteps := 1000000) (disch := first | omega | (simp only [List.length_cons, List.length_nil, List.length_append, List.length_map, List.length_take, List.length_drop]; omega)) only [go_sem, ↓reduceIte, Nat.reduceSub, Nat.reduceAdd, Nat.reduceMul, Nat.reduceLeDiff, Nat.reduceLT, Nat.reduceEqDiff, Nat.reduceBEq, Int.reduceLE, Int.reduceLT, Int.reduceEq, Int.reduceNeg, Int.reduceAdd, Int.reduceSub, Int.reduceMul, Int.reduceToNat, i_conf_Bytes_v1, h1, h]
theorem conf_Bytes_v1_f (l : List Int) (hl : l.length ≤ 1048576) (hm : may l = false) : Ev tab G0 n_conf_Bytes_v1 [.sl true (eI .i64 l)] [] = some ([.nilsl, errA 1], [.dead]) := by
  have h1 := conf_May_ev l hl
  rw [hm] at h1
  refine Ev_run t_conf_Bytes_v1 rfl rfl ?_
  simp (maxSteps := 1000000) (disch := first | omega | (simp only [List.length_cons, List.length_nil, List.length_append, List.length_map, List.length_take, List.length_drop]; omega)) only [go_sem, ↓reduceIte, Nat.reduceSub, Nat.reduceAdd, Nat.reduceMul, Nat.reduceLeDiff, Nat.reduceLT, Nat.reduceEqDiff, Nat.reduceBEq, Int.reduceLE, Int.reduceLT, Int.reduceEq, Int.reduceNeg, Int.reduceAdd, Int.reduceSub, Int.reduceMul, Int.reduceToNat, i_conf_Bytes_v1, h1]
theorem of_loopV (b : List UInt8) (hb : b.length ≤ 1048576) : ∀ (n i : Nat) (acc : List Int), n + i = b.length → acc.length ≤ i → L_conf_Of_v1_0 (s_conf_Of_v1_K0 (riA acc) (.sl true (eB b)) (i64 b.length) (i64 i) [riO acc]) = some (.exit 0, s_conf_Of_v1_J0 (riA (acc ++ ofB (b.drop i))) [riO (acc ++ ofB (b.drop i))])
  | 0, i, acc, h, ha => by
    rw [List.drop_of_length_le (by omega), L_conf_Of_v1_0_eq, ofB, List.map_nil, List.append_nil]
    cases acc with
    | nil =>
      simp only [riA_nil, riO_nil]
      simp (maxSteps := 1000000) (disch := first | omega | (simp only [List.length_cons, List.length_nil, List.length_append, List.length_map, List.length_take, List.length_drop]; omega)) only [go_sem, ↓reduceIte, Nat.reduceSub, Nat.reduceAdd, Nat.reduceMul, Nat.reduceLeDiff, Nat.reduceLT, Nat.reduceEqDiff, Nat.reduceBEq, Int.reduceLE, Int.reduceLT, Int.reduceEq, Int.reduceNeg, Int.reduceAdd, Int.reduceSub, Int.reduceMul, Int.reduceToNat, i_conf_Of_v1_b0]
    | cons x acc =>
      simp only [riA_cons, riO_cons]
      simp (maxSteps := 1000000) (disch := first | omega | (simp only [List.length_cons, List.length_nil, List.length_append, List.length_map, List.length_take, List.length_drop]; omega)) only [go_sem, ↓reduceIte, Nat.reduceSub, Nat.reduceAdd, Nat.reduceMul, Nat.reduceLeDiff, Nat.reduceLT, Nat.reduceEqDiff, Nat.reduceBEq, Int.reduceLE, Int.reduceLT, Int.reduceEq, Int.reduceNeg, Int.reduceAdd, Int.reduceSub, Int.reduceMul, Int.reduceToNat, i_conf_Of_v1_b0]
  | n + 1, i, acc, h, ha => by
    have ih := of_loopV b hb n (i + 1) (acc ++ [((b.getD i 0).toNat : Int)]) (by omega) (by simp; omega)
    rw [drop_step (d := 0) (by omega), L_conf_Of_v1_0_eq]
    unfold ofB at ih ⊢
    rw [List.map_cons]
    rw [List.append_assoc, List.singleton_append] at ih
    generalize hd : b.getD i 0 = y at *
    generalize acc ++ (y.toNat : Int) :: (b.drop (i + 1)).map (fun x => (x.toNat : Int)) = r at *
    have e1 : C.sc (.int .i64 (y.toNat : Int)) = C.sc (.int .i64 (y.toNat : Int)) := rfl
    have e2 : [[C.sc (.int .i64 (y.toNat : Int))]] = eI .i64 [(y.toNat : Int)] := rfl
    cases acc with
    | nil =>
      simp only [riA_nil, riO_nil, riA_cons, riO_cons, List.nil_append] at ih ⊢
      try simp (maxSteps := 1000000) (disch := first | omega | (simp only [List.length_cons, List.length_nil, List.length_append, List.length_map, List.length_take, List.length_drop]; omega)) only [go_sem, ↓reduceIte, Nat.reduceSub, Nat.reduceAdd, Nat.reduceMul, Nat.reduceLeDiff, Nat.reduceLT, Nat.reduceEqDiff, Nat.reduceBEq, Int.reduceLE, Int.reduceLT, Int.reduceEq, Int.reduceNeg, Int.reduceAdd, Int.reduceSub, Int.reduceMul, Int.reduceToNat] at ih
      simp (maxSteps := 1000000) (disch := first | omega | (simp only [List.length_cons, List.length_nil, List.length_append, List.length_map, List.length_take, List.length_drop]; omega)) only [go_sem, ↓reduceIte, Nat.reduceSub, Nat.reduceAdd, Nat.reduceMul, Nat.reduceLeDiff, Nat.reduceLT, Nat.reduceEqDiff, Nat.reduceBEq, Int.reduceLE, Int.reduceLT, Int.reduceEq, Int.reduceNeg, Int.reduceAdd, Int.reduceSub, Int.reduceMul, Int.reduceToNat, i_conf_Of_v1_b0, hd, ih, eI_emp, e2, eI_appd, List.cons_append]
    | cons x acc =>
      simp only [List.length_cons] at ha
      simp only [riA_cons, riO_cons, List.cons_append] at ih ⊢
      try simp (maxSteps := 1000000) (disch := first | omega | (simp only [List.length_cons, List.length_nil, List.length_append, List.length_map, List.length_take, List.length_drop]; omega)) only [go_sem, ↓reduceIte, Nat.reduceSub, Nat.reduceAdd, Nat.reduceMul, Nat.reduceLeDiff, Nat.reduceLT, Nat.reduceEqDiff, Nat.reduceBEq, Int.reduceLE, Int.reduceLT, Int.reduceEq, Int.reduceNeg, Int.reduceAdd, Int.reduceSub, Int.reduceMul, Int.reduceToNat] at ih
      simp (maxSteps := 1000000) (disch := first | omega | (simp only [List.length_cons, List.length_nil, List.length_append, List.length_map, List.length_take, List.length_drop]; omega)) only [go_sem, ↓reduceIte, Nat.reduceSub, Nat.reduceAdd, Nat.reduceMul, Nat.reduceLeDiff, Nat.reduceLT, Nat.reduceEqDiff, Nat.reduceBEq, Int.reduceLE, Int.reduceLT, Int.reduceEq, Int.reduceNeg, Int.reduceAdd, Int.reduceSub, Int.reduceMul, Int.reduceToNat, i_conf_Of_v1_b0, hd, ih, eI_emp, e2, eI_appd, List.cons_append]
theorem conf_Of_v1_t (b : List UInt8) (hb : b.length ≤ 1048576) (hm : may (ofB b) = true) : Ev tab G0 n_conf_Of_v1 [.sl true (eB b)] [] = some ([.row 0 (ofB b).length, .s .nilIface], [.row ty_int 1 true false (eI .i64 (ofB b))]) := by
  have h1 := conf_May_ev (ofB b) (by rw [ofB_len]; exact hb)
  have h := of_loopV b hb b.length 0 [] (by omega) (by simp)
  have e0 : ((0 : Nat) : Int) = 0 := rfl
  rw [e0, List.drop_zero, List.nil_append, riA_nil, riO_nil] at h
  rw [hm] at h1
  generalize ofB b = r at *
  obtain ⟨x, r, rfl⟩ := may_ne hm
  rw [riA_cons, riO_cons] at h
  refine Ev_run t_conf_Of_v1 rfl rfl ?_
  simp (maxSteps := 1000000) (disch := first | omega | (simp only [List.length_cons, List.length_nil, List.length_append, List.length_map, List.length_take, List.length_drop]; omega)) only [go_sem, ↓reduceIte, Nat.reduceSub, Nat.reduceAdd, Nat.reduceMul, Nat.reduceLeDiff, Nat.reduceLT, Nat.reduceEqDiff, Nat.reduceBEq, Int.reduceLE, Int.reduceLT, Int.reduceEq, Int.reduceNeg, Int.reduceAdd, Int.reduceSub, Int.reduceMul, Int.reduceToNat, i_conf_Of_v1, h1, h]
theorem conf_Of_v1_f (b : List UInt8) (hb : b.length ≤ 1048576) (hm : may (ofB b) = false) : Ev tab G0 n_conf_Of_v1 [.sl true (eB b)] [] = some ([.nilsl, errA 3], [.dead]) := by
  have h1 := conf_May_ev (ofB b) (by rw [ofB_len]; exact hb)
  have h := of_loopV b hb b.length 0 [] (by omega) (by simp)
  have e0 : ((0 : Nat) : Int) = 0 := rfl
  have en : eI .i64 [] = [] := rfl
  rw [e0, List.drop_zero, List.nil_append, riA_nil, riO_nil] at h
  rw [hm] at h1
  generalize ofB b = r at *
  refine Ev_run t_conf_Of_v1 rfl rfl ?_
  cases r with
  | nil =>
    rw [riA_nil, riO_nil] at h
    rw [en] at h1
    simp (maxSteps := 1000000) (disch := first | omega | (simp only [List.length_cons, List.length_nil, List.length_append, List.length_map, List.length_take, List.length_drop]; omega)) only [go_sem, ↓reduceIte, Nat.reduceSub, Nat.reduceAdd, Nat.reduceMul, Nat.reduceLeDiff, Nat.reduceLT, Nat.reduceEqDiff, Nat.reduceBEq, Int.reduceLE, Int.reduceLT, Int.reduceEq, Int.reduceNeg, Int.reduceAdd, Int.reduceSub, Int.reduceMul, Int.reduceToNat, i_conf_Of_v1, h1, h]
  | cons x r =>
    rw [riA_cons, riO_cons] at h
    simp (maxSteps := 1000000) (disch := first | omega | (simp only [List.length_cons, List.length_nil, List.length_append, List.length_map, List.length_take, List.length_drop]; omega)) only [go_sem, ↓reduceIte, Nat.reduceSub, Nat.reduceAdd, Nat.reduceMul, Nat.reduceLeDiff, Nat.reduceLT, Nat.reduceEqDiff, Nat.reduceBEq, Int.reduceLE, Int.reduceLT, Int.reduceEq, Int.reduceNeg, Int.reduceAdd, Int.reduceSub, Int.reduceMul, Int.reduceToNat, i_conf_Of_v1, h1, h]
abbrev rwI (l : List Int) : Ev.Obj := .row ty_int 1 true false (eI .i64 l)
abbrev rwB (l : List UInt8) : Ev.Obj := .row ty_uint8 1 true false (eB l)
theorem eI_set0 {l : List Int} {i : Nat} {a : Int} : (eI .i64 l).set i [C.sc (.int .i64 a)] = eI .i64 (l.set i a) := by simp [eI, List.map_set]
theorem fst_loop (l : List Int) (b : List UInt8) (x y : List (List C)) (s : Bool) : ∀ (n i : Nat) (v : List Int), n + i = v.length → v.length ≤ 1048576 → L_law17_ConfStays_0 (s_law17_ConfStays_K0 (.sl true (eI .i64 l)) (.sl true (eB b)) (bo true) (.row 0 v.length) (.row 1 b.length) (.sl true x) (.sl true y) (bo s) (i64 i) [some (rwI v), some (rwB b), none, none, none, none]) = some (.exit 0, s_law17_ConfStays_J0 (.sl true (eI .i64 l)) (.sl true (eB b)) (bo true) (.row 1 b.length) (.sl true x) (.sl true y) (bo s) [none, some (rwB b), none, none, none, none])
  | 0, i, v, h, hv => by
    rw [L_law17_ConfStays_0_eq]
    simp (maxSteps := 1000000) (disch := first | omega | (simp only [List.length_cons, List.length_nil, List.length_append, List.length_map, List.length_take, List.length_drop]; omega)) only [go_sem, ↓reduceIte, Nat.reduceSub, Nat.reduceAdd, Nat.reduceMul, Nat.reduceLeDiff, Nat.reduceLT, Nat.reduceEqDiff, Nat.reduceBEq, Int.reduceLE, Int.reduceLT, Int.reduceEq, Int.reduceNeg, Int.reduceAdd, Int.reduceSub, Int.reduceMul, Int.reduceToNat, i_law17_ConfStays_b0]
  | n + 1, i, v, h, hv => by
    have ih := fst_loop l b x y s n (i + 1) (v.set i 0) (by rw [List.length_set]; omega) (by rw [List.length_set]; omega)
    rw [List.length_set] at ih
    rw [L_law17_ConfStays_0_eq]
    try simp (maxSteps := 1000000) (disch := first | omega | (simp only [List.length_cons, List.length_nil, List.length_append, List.length_map, List.length_take, List.length_drop]; omega)) only [go_sem, ↓reduceIte, Nat.reduceSub, Nat.reduceAdd, Nat.reduceMul, Nat.reduceLeDiff, Nat.reduceLT, Nat.reduceEqDiff, Nat.reduceBEq, Int.reduceLE, Int.reduceLT, Int.reduceEq, Int.reduceNeg, Int.reduceAdd, Int.reduceSub, Int.reduceMul, Int.reduceToNat] at ih
    simp (maxSteps := 1000000) (disch := first | omega | (simp only [List.length_cons, List.length_nil, List.length_append, List.length_map, List.length_take, List.length_drop]; omega)) only [go_sem, ↓reduceIte, Nat.reduceSub, Nat.reduceAdd, Nat.reduceMul, Nat.reduceLeDiff, Nat.reduceLT, Nat.reduceEqDiff, Nat.reduceBEq, Int.reduceLE, Int.reduceLT, Int.reduceEq, Int.reduceNeg, Int.reduceAdd, Int.reduceSub, Int.reduceMul, Int.reduceToNat, i_law17_ConfStays_b0, eI_set0, ih]
theorem snd_loop (l : List Int) (b : List UInt8) (x y : List (List C)) (s : Bool) : ∀ (n i : Nat) (v : List UInt8), n + i = v.length → v.length ≤ 1048576 → L_law17_ConfStays_1 (s_law17_ConfStays_K1 (.sl true (eI .i64 l)) (.sl true (eB b)) (bo true) (.row 1 v.length) (.sl true x) (.sl true y) (bo s) (i64 i) [none, some (rwB v), none, none, none, none]) = some (.exit 2, s_law17_ConfStays_J2 (.sl true (eI .i64 l)) (.sl true (eB b)) (bo true) (.sl true x) (.sl true y) (bo s) [none, none, none, none, none, none])
  | 0, i, v, h, hv => by
    rw [L_law17_ConfStays_1_eq]
    simp (maxSteps := 1000000) (disch := first | omega | (simp only [List.length_cons, List.length_nil, List.length_append, List.length_map, List.length_take, List.length_drop]; omega)) only [go_sem, ↓reduceIte, Nat.reduceSub, Nat.reduceAdd, Nat.reduceMul, Nat.reduceLeDiff, Nat.reduceLT, Nat.reduceEqDiff, Nat.reduceBEq, Int.reduceLE, Int.reduceLT, Int.reduceEq, Int.reduceNeg, Int.reduceAdd, Int.reduceSub, Int.reduceMul, Int.reduceToNat, i_law17_ConfStays_b1]
  | n + 1, i, v, h, hv => by
    have ih := snd_loop l b x y s n (i + 1) (v.set i 0) (by rw [List.length_set]; omega) (by rw [List.length_set]; omega)
    rw [List.length_set] at ih
    rw [L_law17_ConfStays_1_eq]
    have e0 : byt 0 = 0 := rfl
    try simp (maxSteps := 1000000) (disch := first | omega | (simp only [List.length_cons, List.length_nil, List.length_append, List.length_map, List.length_take, List.length_drop]; omega)) only [go_sem, ↓reduceIte, Nat.reduceSub, Nat.reduceAdd, Nat.reduceMul, Nat.reduceLeDiff, Nat.reduceLT, Nat.reduceEqDiff, Nat.reduceBEq, Int.reduceLE, Int.reduceLT, Int.reduceEq, Int.reduceNeg, Int.reduceAdd, Int.reduceSub, Int.reduceMul, Int.reduceToNat] at ih
    simp (maxSteps := 1000000) (disch := first | omega | (simp only [List.length_cons, List.length_nil, List.length_append, List.length_map, List.length_take, List.length_drop]; omega)) only [go_sem, ↓reduceIte, Nat.reduceSub, Nat.reduceAdd, Nat.reduceMul, Nat.reduceLeDiff, Nat.reduceLT, Nat.reduceEqDiff, Nat.reduceBEq, Int.reduceLE, Int.reduceLT, Int.reduceEq, Int.reduceNeg, Int.reduceAdd, Int.reduceSub, Int.reduceMul, Int.reduceToNat, i_law17_ConfStays_b1, ih, e0]
theorem law_ConfStays (l : List Int) (b : List UInt8) (hl : l.length ≤ 1048576) (hb : b.length ≤ 1048576) : ∃ outs, Ev tab G0 n_law17_ConfStays [.sl true (eI .i64 l), .sl true (eB b)] [] = some ([bo true], outs) := by
  have h0 := up17_ev
  have h3 := conf_Most_ev l l hl hl
  have h4 := conf_Step_ev l l hl hl
  have h5 := ref17_Same_ev l l hl hl
  rw [decide_eq_true rfl] at h5
  have h7 := ref17_Same_ev (ofB b) (ofB b) (by rw [ofB_len]; exact hb) (by rw [ofB_len]; exact hb)
  have h8 := ref17_Same_ev [] [] (by simp) (by simp)
  rw [decide_eq_true rfl] at h7 h8
  have en : eI .i64 [] = [] := rfl
  rw [en] at h8
  have b0 : bytesOf [] = some [] := rfl
  have b1 : (([] : List UInt8) == []) = true := rfl
  have hw : (l.map byt == l.map byt) = true := beq_self_eq_true _
  have hbb : (b == b) = true := beq_self_eq_true _
  have hlen : (l.map byt).length = l.length := List.length_map ..
  have hlo := ofB_len b
  have g1 := fun x y => fst_loop l b x y true l.length 0 l (by omega) hl
  have g2 := fun x y => snd_loop l b x y true b.length 0 b (by omega) hb
  have e0 : ((0 : Nat) : Int) = 0 := rfl
  rw [e0] at g1 g2
  refine ⟨[], Ev_run t_law17_ConfStays rfl rfl ?_⟩
  cases hp : may l
  · have h1 := conf_Bytes_v1_f l hl hp
    cases hq : may (ofB b)
    · have h2 := conf_Of_v1_f b hb hq
      simp (maxSteps := 1000000) (disch := first | omega | (simp only [List.length_cons, List.length_nil, List.length_append, List.length_map, List.length_take, List.length_drop]; omega)) only [go_sem, ↓reduceIte, Nat.reduceSub, Nat.reduceAdd, Nat.reduceMul, Nat.reduceLeDiff, Nat.reduceLT, Nat.reduceEqDiff, Nat.reduceBEq, Int.reduceLE, Int.reduceLT, Int.reduceEq, Int.reduceNeg, Int.reduceAdd, Int.reduceSub, Int.reduceMul, Int.reduceToNat, i_law17_ConfStays, h0, h1, h2, h3, h4, h5, h8, g1, g2, hbb, b0, b1]
    · have h2 := conf_Of_v1_t b hb hq
      generalize ofB b = o at *
      simp (maxSteps := 1000000) (disch := first | omega | (simp only [List.length_cons, List.length_nil, List.length_append, List.length_map, List.length_take, List.length_drop]; omega)) only [go_sem, ↓reduceIte, Nat.reduceSub, Nat.reduceAdd, Nat.reduceMul, Nat.reduceLeDiff, Nat.reduceLT, Nat.reduceEqDiff, Nat.reduceBEq, Int.reduceLE, Int.reduceLT, Int.reduceEq, Int.reduceNeg, Int.reduceAdd, Int.reduceSub, Int.reduceMul, Int.reduceToNat, i_law17_ConfStays, h0, h1, h2, h3, h4, h5, h7, g1, g2, hbb, b0, b1]
  · have h1 := conf_Bytes_v1_t l hl hp
    cases hq : may (ofB b)
    · have h2 := conf_Of_v1_f b hb hq
      generalize l.map byt = w at *
      simp (maxSteps := 1000000) (disch := first | omega | (simp only [List.length_cons, List.length_nil, List.length_append, List.length_map, List.length_take, List.length_drop]; omega)) only [go_sem, ↓reduceIte, Nat.reduceSub, Nat.reduceAdd, Nat.reduceMul, Nat.reduceLeDiff, Nat.reduceLT, Nat.reduceEqDiff, Nat.reduceBEq, Int.reduceLE, Int.reduceLT, Int.reduceEq, Int.reduceNeg, Int.reduceAdd, Int.reduceSub, Int.reduceMul, Int.reduceToNat, i_law17_ConfStays, h0, h1, h2, h3, h4, h5, h8, g1, g2, hw, hbb]
    · have h2 := conf_Of_v1_t b hb hq
      generalize l.map byt = w at *
      generalize ofB b = o at *
      simp (maxSteps := 1000000) (disch := first | omega | (simp only [List.length_cons, List.length_nil, List.length_append, List.length_map, List.length_take, List.length_drop]; omega)) only [go_sem, ↓reduceIte, Nat.reduceSub, Nat.reduceAdd, Nat.reduceMul, Nat.reduceLeDiff, Nat.reduceLT, Nat.reduceEqDiff, Nat.reduceBEq, Int.reduceLE, Int.reduceLT, Int.reduceEq, Int.reduceNeg, Int.reduceAdd, Int.reduceSub, Int.reduceMul, Int.reduceToNat, i_law17_ConfStays, h0, h1, h2, h3, h4, h5, h7, g1, g2, hw, hbb]

end Go.Proofs.Ytkfaahjcncpmhaa
