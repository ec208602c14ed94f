/-
  Members' bytes, and back: the law.
-/
import Derived.Test.YtkfaahjcncpmhaaLConf2
import Derived.Test.YtkfaahjcncpmhaaLCode0
set_option linter.unusedSimpArgs false
set_option linter.unusedVariables false
set_option maxRecDepth 200000
set_option maxHeartbeats 4000000
namespace Go.Proofs.Ytkfaahjcncpmhaa
open Go.Ev

/-- A row of bytes, of numbers, that may be none. -/
def rbA : List UInt8 → AV
  | [] => .nilsl
  | x :: l => .row 0 (l.length + 1)
def rbO : List UInt8 → Option Ev.Obj
  | [] => none
  | x :: l => some (.row ty_uint8 1 true false (eB (x :: l)))
def riA : List Int → AV
  | [] => .nilsl
  | x :: l => .row 0 (l.length + 1)
def riO : List Int → Option Ev.Obj
  | [] => none
  | x :: l => some (.row ty_int 1 true false (eI .i64 (x :: l)))
theorem eI_appd {k : IntKind} {a b : List Int} : eI k a ++ eI k b = eI k (a ++ b) := by simp [eI]
theorem rbA_nil : rbA [] = .nilsl := rfl
theorem rbO_nil : rbO [] = none := rfl
theorem rbA_cons {x : UInt8} {l : List UInt8} : rbA (x :: l) = .row 0 (l.length + 1) := rfl
theorem rbO_cons {x : UInt8} {l : List UInt8} : rbO (x :: l) = some (.row ty_uint8 1 true false (eB (x :: l))) := rfl
theorem riA_nil : riA [] = .nilsl := rfl
theorem riO_nil : riO [] = none := rfl
theorem riA_cons {x : Int} {l : List Int} : riA (x :: l) = .row 0 (l.length + 1) := rfl
theorem riO_cons {x : Int} {l : List Int} : riO (x :: l) = some (.row ty_int 1 true false (eI .i64 (x :: l))) := rfl
theorem eB_emp {x : UInt8} {l : List UInt8} : (eB (x :: l)).isEmpty = false := rfl
theorem eI_emp {k : IntKind} {x : Int} {l : List Int} : (eI k (x :: l)).isEmpty = false := rfl
theorem bytes_loop (l : List Int) (hl : l.length ≤ 1048576) : ∀ (n i : Nat) (acc : List UInt8), n + i = l.length → acc.length ≤ i → L_conf_Bytes_0 (s_conf_Bytes_K0 (rbA acc) (.sl true (eI .i64 l)) (i64 l.length) (i64 i) [rbO acc]) = some (.exit 0, s_conf_Bytes_J0 (rbA (acc ++ (l.drop i).map byt)) [rbO (acc ++ (l.drop i).map byt)])
  | 0, i, acc, h, ha => by
    rw [List.drop_of_length_le (by omega), L_conf_Bytes_0_eq, List.map_nil, List.append_nil]
    cases acc with
    | nil =>
      simp only [rbA_nil, rbO_nil, rbA_cons, rbO_cons]
      simp (maxSteps := 1000000) (disch := first | omega | (simp only [List.length_cons, List.length_nil, List.length_append, List.length_map, List.length_take, List.length_drop]; omega)) only [go_sem, ↓reduceIte, Nat.reduceSub, Nat.reduceAdd, Nat.reduceMul, Nat.reduceLeDiff, Nat.reduceLT, Nat.reduceEqDiff, Nat.reduceBEq, Int.reduceLE, Int.reduceLT, Int.reduceEq, Int.reduceNeg, Int.reduceAdd, Int.reduceSub, Int.reduceMul, Int.reduceToNat, i_conf_Bytes_b0]
    | cons x acc =>
      simp only [rbA_nil, rbO_nil, rbA_cons, rbO_cons]
      simp (maxSteps := 1000000) (disch := first | omega | (simp only [List.length_cons, List.length_nil, List.length_append, List.length_map, List.length_take, List.length_drop]; omega)) only [go_sem, ↓reduceIte, Nat.reduceSub, Nat.reduceAdd, Nat.reduceMul, Nat.reduceLeDiff, Nat.reduceLT, Nat.reduceEqDiff, Nat.reduceBEq, Int.reduceLE, Int.reduceLT, Int.reduceEq, Int.reduceNeg, Int.reduceAdd, Int.reduceSub, Int.reduceMul, Int.reduceToNat, i_conf_Bytes_b0]
  | n + 1, i, acc, h, ha => by
    have ih := bytes_loop l hl n (i + 1) (acc ++ [byt (l.getD i 0)]) (by omega) (by simp; omega)
    rw [drop_step (d := 0) (by omega), List.map_cons, L_conf_Bytes_0_eq]
    rw [List.append_assoc, List.singleton_append] at ih
    generalize hd : l.getD i 0 = y at *
    generalize acc ++ byt y :: (l.drop (i + 1)).map byt = r at *
    cases acc with
    | nil =>
      simp only [rbA_nil, rbO_nil, rbA_cons, rbO_cons, List.nil_append] at ih ⊢
      try simp (maxSteps := 1000000) (disch := first | omega | (simp only [List.length_cons, List.length_nil, List.length_append, List.length_map, List.length_take, List.length_drop]; omega)) only [go_sem, ↓reduceIte, Nat.reduceSub, Nat.reduceAdd, Nat.reduceMul, Nat.reduceLeDiff, Nat.reduceLT, Nat.reduceEqDiff, Nat.reduceBEq, Int.reduceLE, Int.reduceLT, Int.reduceEq, Int.reduceNeg, Int.reduceAdd, Int.reduceSub, Int.reduceMul, Int.reduceToNat] at ih
      simp (maxSteps := 1000000) (disch := first | omega | (simp only [List.length_cons, List.length_nil, List.length_append, List.length_map, List.length_take, List.length_drop]; omega)) only [go_sem, ↓reduceIte, Nat.reduceSub, Nat.reduceAdd, Nat.reduceMul, Nat.reduceLeDiff, Nat.reduceLT, Nat.reduceEqDiff, Nat.reduceBEq, Int.reduceLE, Int.reduceLT, Int.reduceEq, Int.reduceNeg, Int.reduceAdd, Int.reduceSub, Int.reduceMul, Int.reduceToNat, i_conf_Bytes_b0, hd, ih, eB_emp]
    | cons x acc =>
      simp only [List.length_cons] at ha
      simp only [rbA_cons, rbO_cons, List.cons_append] at ih ⊢
      try simp (maxSteps := 1000000) (disch := first | omega | (simp only [List.length_cons, List.length_nil, List.length_append, List.length_map, List.length_take, List.length_drop]; omega)) only [go_sem, ↓reduceIte, Nat.reduceSub, Nat.reduceAdd, Nat.reduceMul, Nat.reduceLeDiff, Nat.reduceLT, Nat.reduceEqDiff, Nat.reduceBEq, Int.reduceLE, Int.reduceLT, Int.reduceEq, Int.reduceNeg, Int.reduceAdd, Int.reduceSub, Int.reduceMul, Int.reduceToNat] at ih
      simp (maxSteps := 1000000) (disch := first | omega | (simp only [List.length_cons, List.length_nil, List.length_append, List.length_map, List.length_take, List.length_drop]; omega)) only [go_sem, ↓reduceIte, Nat.reduceSub, Nat.reduceAdd, Nat.reduceMul, Nat.reduceLeDiff, Nat.reduceLT, Nat.reduceEqDiff, Nat.reduceBEq, Int.reduceLE, Int.reduceLT, Int.reduceEq, Int.reduceNeg, Int.reduceAdd, Int.reduceSub, Int.reduceMul, Int.reduceToNat, i_conf_Bytes_b0, hd, ih, eB_emp]
theorem rb_frz (r : List UInt8) : r = [] ∨ ∃ x l, r = x :: l := by cases r <;> simp
theorem conf_Bytes_ev (l : List Int) (hl : l.length ≤ 1048576) : Ev tab G0 n_conf_Bytes [.sl true (eI .i64 l)] [] = some (if may l = true then [.sl true (eB (l.map byt)), .s .nilIface] else [.sl true [], errA 1], []) := by
  have h1 := conf_May_ev l hl
  have h := bytes_loop l hl l.length 0 [] (by omega) (by simp)
  have e0 : ((0 : Nat) : Int) = 0 := rfl
  rw [e0, List.drop_zero, List.nil_append, rbA_nil, rbO_nil] at h
  refine Ev_run t_conf_Bytes rfl rfl ?_
  cases hm : may l
  · rw [hm] at h1
    rw [if_neg (by simp)]
    simp (maxSteps := 1000000) (disch := first | omega | (simp only [List.length_cons, List.length_nil, List.length_append, List.length_map, List.length_take, List.length_drop]; omega)) only [go_sem, ↓reduceIte, Nat.reduceSub, Nat.reduceAdd, Nat.reduceMul, Nat.reduceLeDiff, Nat.reduceLT, Nat.reduceEqDiff, Nat.reduceBEq, Int.reduceLE, Int.reduceLT, Int.reduceEq, Int.reduceNeg, Int.reduceAdd, Int.reduceSub, Int.reduceMul, Int.reduceToNat, i_conf_Bytes, h1]
  · rw [hm] at h1
    rw [if_pos rfl]
    generalize hr : l.map byt = r at *
    cases r with
    | nil =>
      rw [rbA_nil, rbO_nil] at h
      have en : eB [] = [] := rfl
      simp (maxSteps := 1000000) (disch := first | omega | (simp only [List.length_cons, List.length_nil, List.length_append, List.length_map, List.length_take, List.length_drop]; omega)) only [go_sem, ↓reduceIte, Nat.reduceSub, Nat.reduceAdd, Nat.reduceMul, Nat.reduceLeDiff, Nat.reduceLT, Nat.reduceEqDiff, Nat.reduceBEq, Int.reduceLE, Int.reduceLT, Int.reduceEq, Int.reduceNeg, Int.reduceAdd, Int.reduceSub, Int.reduceMul, Int.reduceToNat, i_conf_Bytes, h1, h, en]
    | cons x r =>
      rw [rbA_cons, rbO_cons] at h
      simp (maxSteps := 1000000) (disch := first | omega | (simp only [List.length_cons, List.length_nil, List.length_append, List.length_map, List.length_take, List.length_drop]; omega)) only [go_sem, ↓reduceIte, Nat.reduceSub, Nat.reduceAdd, Nat.reduceMul, Nat.reduceLeDiff, Nat.reduceLT, Nat.reduceEqDiff, Nat.reduceBEq, Int.reduceLE, Int.reduceLT, Int.reduceEq, Int.reduceNeg, Int.reduceAdd, Int.reduceSub, Int.reduceMul, Int.reduceToNat, i_conf_Bytes, h1, h]
theorem rbytes_loop (l : List Int) (hl : l.length ≤ 1048576) : ∀ (n i : Nat) (acc : List UInt8), n + i = l.length → acc.length ≤ i → L_ref17_Bytes_0 (s_ref17_Bytes_K0 (.sl true (eI .i64 l)) (rbA acc) (i64 i) [rbO acc]) = some (.exit 0, s_ref17_Bytes_J0 (rbA (acc ++ (l.drop i).map byt)) [rbO (acc ++ (l.drop i).map byt)])
  | 0, i, acc, h, ha => by
    rw [List.drop_of_length_le (by omega), L_ref17_Bytes_0_eq, List.map_nil, List.append_nil]
    cases acc with
    | nil =>
      simp only [rbA_nil, rbO_nil]
      simp (maxSteps := 1000000) (disch := first | omega | (simp only [List.length_cons, List.length_nil, List.length_append, List.length_map, List.length_take, List.length_drop]; omega)) only [go_sem, ↓reduceIte, Nat.reduceSub, Nat.reduceAdd, Nat.reduceMul, Nat.reduceLeDiff, Nat.reduceLT, Nat.reduceEqDiff, Nat.reduceBEq, Int.reduceLE, Int.reduceLT, Int.reduceEq, Int.reduceNeg, Int.reduceAdd, Int.reduceSub, Int.reduceMul, Int.reduceToNat, i_ref17_Bytes_b0]
    | cons x acc =>
      simp only [rbA_cons, rbO_cons]
      simp (maxSteps := 1000000) (disch := first | omega | (simp only [List.length_cons, List.length_nil, List.length_append, List.length_map, List.length_take, List.length_drop]; omega)) only [go_sem, ↓reduceIte, Nat.reduceSub, Nat.reduceAdd, Nat.reduceMul, Nat.reduceLeDiff, Nat.reduceLT, Nat.reduceEqDiff, Nat.reduceBEq, Int.reduceLE, Int.reduceLT, Int.reduceEq, Int.reduceNeg, Int.reduceAdd, Int.reduceSub, Int.reduceMul, Int.reduceToNat, i_ref17_Bytes_b0]
  | n + 1, i, acc, h, ha => by
    have ih := rbytes_loop l hl n (i + 1) (acc ++ [byt (l.getD i 0)]) (by omega) (by simp; omega)
    rw [drop_step (d := 0) (by omega), List.map_cons, L_ref17_Bytes_0_eq]
    rw [List.append_assoc, List.singleton_append] at ih
    generalize hd : l.getD i 0 = y at *
    generalize acc ++ byt y :: (l.drop (i + 1)).map byt = r at *
    cases acc with
    | nil =>
      simp only [rbA_nil, rbO_nil, rbA_cons, rbO_cons, List.nil_append] at ih ⊢
      try simp (maxSteps := 1000000) (disch := first | omega | (simp only [List.length_cons, List.length_nil, List.length_append, List.length_map, List.length_take, List.length_drop]; omega)) only [go_sem, ↓reduceIte, Nat.reduceSub, Nat.reduceAdd, Nat.reduceMul, Nat.reduceLeDiff, Nat.reduceLT, Nat.reduceEqDiff, Nat.reduceBEq, Int.reduceLE, Int.reduceLT, Int.reduceEq, Int.reduceNeg, Int.reduceAdd, Int.reduceSub, Int.reduceMul, Int.reduceToNat] at ih
      simp (maxSteps := 1000000) (disch := first | omega | (simp only [List.length_cons, List.length_nil, List.length_append, List.length_map, List.length_take, List.length_drop]; omega)) only [go_sem, ↓reduceIte, Nat.reduceSub, Nat.reduceAdd, Nat.reduceMul, Nat.reduceLeDiff, Nat.reduceLT, Nat.reduceEqDiff, Nat.reduceBEq, Int.reduceLE, Int.reduceLT, Int.reduceEq, Int.reduceNeg, Int.reduceAdd, Int.reduceSub, Int.reduceMul, Int.reduceToNat, i_ref17_Bytes_b0, hd, ih, eB_emp]
    | cons x acc =>
      simp only [List.length_cons] at ha
      simp only [rbA_cons, rbO_cons, List.cons_append] at ih ⊢
      try simp (maxSteps := 1000000) (disch := first | omega | (simp only [List.length_cons, List.length_nil, List.length_append, List.length_map, List.length_take, List.length_drop]; omega)) only [go_sem, ↓reduceIte, Nat.reduceSub, Nat.reduceAdd, Nat.reduceMul, Nat.reduceLeDiff, Nat.reduceLT, Nat.reduceEqDiff, Nat.reduceBEq, Int.reduceLE, Int.reduceLT, Int.reduceEq, Int.reduceNeg, Int.reduceAdd, Int.reduceSub, Int.reduceMul, Int.reduceToNat] at ih
      simp (maxSteps := 1000000) (disch := first | omega | (simp only [List.length_cons, List.length_nil, List.length_append, List.length_map, List.length_take, List.length_drop]; omega)) only [go_sem, ↓reduceIte, Nat.reduceSub, Nat.reduceAdd, Nat.reduceMul, Nat.reduceLeDiff, Nat.reduceLT, Nat.reduceEqDiff, Nat.reduceBEq, Int.reduceLE, Int.reduceLT, Int.reduceEq, Int.reduceNeg, Int.reduceAdd, Int.reduceSub, Int.reduceMul, Int.reduceToNat, i_ref17_Bytes_b0, hd, ih, eB_emp]
theorem ref17_Bytes_ev (l : List Int) (hl : l.length ≤ 1048576) : Ev tab G0 n_ref17_Bytes [.sl true (eI .i64 l)] [] = some ([.sl true (eB (l.map byt))], []) := by
  have h := rbytes_loop l hl l.length 0 [] (by omega) (by simp)
  have e0 : ((0 : Nat) : Int) = 0 := rfl
  rw [e0, List.drop_zero, List.nil_append, rbA_nil, rbO_nil] at h
  refine Ev_run t_ref17_Bytes rfl rfl ?_
  generalize hr : l.map byt = r at *
  cases r with
  | nil =>
    rw [rbA_nil, rbO_nil] at h
    have en : eB [] = [] := rfl
    simp (maxSteps := 1000000) (disch := first | omega | (simp only [List.length_cons, List.length_nil, List.length_append, List.length_map, List.length_take, List.length_drop]; omega)) only [go_sem, ↓reduceIte, Nat.reduceSub, Nat.reduceAdd, Nat.reduceMul, Nat.reduceLeDiff, Nat.reduceLT, Nat.reduceEqDiff, Nat.reduceBEq, Int.reduceLE, Int.reduceLT, Int.reduceEq, Int.reduceNeg, Int.reduceAdd, Int.reduceSub, Int.reduceMul, Int.reduceToNat, i_ref17_Bytes, h, en]
  | cons x r =>
    rw [rbA_cons, rbO_cons] at h
    simp (maxSteps := 1000000) (disch := first | omega | (simp only [List.length_cons, List.length_nil, List.length_append, List.length_map, List.length_take, List.length_drop]; omega)) only [go_sem, ↓reduceIte, Nat.reduceSub, Nat.reduceAdd, Nat.reduceMul, Nat.reduceLeDiff, Nat.reduceLT, Nat.reduceEqDiff, Nat.reduceBEq, Int.reduceLE, Int.reduceLT, Int.reduceEq, Int.reduceNeg, Int.reduceAdd, Int.reduceSub, Int.reduceMul, Int.reduceToNat, i_ref17_Bytes, h]
/-- The numbers of bytes. -/
def ofB (b : List UInt8) : List Int := b.map fun x => (x.toNat : Int)
theorem of_loop (b : List UInt8) (hb : b.length ≤ 1048576) : ∀ (n i : Nat) (acc : List Int), n + i = b.length → acc.length ≤ i → L_conf_Of_0 (s_conf_Of_K0 (riA acc) (.sl true (eB b)) (i64 b.length) (i64 i) [riO acc]) = some (.exit 0, s_conf_Of_J0 (riA (acc ++ ofB (b.drop i))) [riO (acc ++ ofB (b.drop i))])
  | 0, i, acc, h, ha => by
    rw [List.drop_of_length_le (by omega), L_conf_Of_0_eq, ofB, List.map_nil, List.append_nil]
    cases acc with
    | nil =>
      simp only [riA_nil, riO_nil]
      simp (maxSteps := 1000000) (disch := first | omega | (simp only [List.length_cons, List.length_nil, List.length_append, List.length_map, List.length_take, List.length_drop]; omega)) only [go_sem, ↓reduceIte, Nat.reduceSub, Nat.reduceAdd, Nat.reduceMul, Nat.reduceLeDiff, Nat.reduceLT, Nat.reduceEqDiff, Nat.reduceBEq, Int.reduceLE, Int.reduceLT, Int.reduceEq, Int.reduceNeg, Int.reduceAdd, Int.reduceSub, Int.reduceMul, Int.reduceToNat, i_conf_Of_b0]
    | cons x acc =>
      simp only [riA_cons, riO_cons]
      simp (maxSteps := 1000000) (disch := first | omega | (simp only [List.length_cons, List.length_nil, List.length_append, List.length_map, List.length_take, List.length_drop]; omega)) only [go_sem, ↓reduceIte, Nat.reduceSub, Nat.reduceAdd, Nat.reduceMul, Nat.reduceLeDiff, Nat.reduceLT, Nat.reduceEqDiff, Nat.reduceBEq, Int.reduceLE, Int.reduceLT, Int.reduceEq, Int.reduceNeg, Int.reduceAdd, Int.reduceSub, Int.reduceMul, Int.reduceToNat, i_conf_Of_b0]
  | n + 1, i, acc, h, ha => by
    have ih := of_loop b hb n (i + 1) (acc ++ [((b.getD i 0).toNat : Int)]) (by omega) (by simp; omega)
    rw [drop_step (d := 0) (by omega), L_conf_Of_0_eq]
    unfold ofB at ih ⊢
    rw [List.map_cons]
    rw [List.append_assoc, List.singleton_append] at ih
    generalize hd : b.getD i 0 = y at *
    generalize acc ++ (y.toNat : Int) :: (b.drop (i + 1)).map (fun x => (x.toNat : Int)) = r at *
    have e1 : C.sc (.int .i64 (y.toNat : Int)) = C.sc (.int .i64 (y.toNat : Int)) := rfl
    have e2 : [[C.sc (.int .i64 (y.toNat : Int))]] = eI .i64 [(y.toNat : Int)] := rfl
    cases acc with
    | nil =>
      simp only [riA_nil, riO_nil, riA_cons, riO_cons, List.nil_append] at ih ⊢
      try simp (maxSteps := 1000000) (disch := first | omega | (simp only [List.length_cons, List.length_nil, List.length_append, List.length_map, List.length_take, List.length_drop]; omega)) only [go_sem, ↓reduceIte, Nat.reduceSub, Nat.reduceAdd, Nat.reduceMul, Nat.reduceLeDiff, Nat.reduceLT, Nat.reduceEqDiff, Nat.reduceBEq, Int.reduceLE, Int.reduceLT, Int.reduceEq, Int.reduceNeg, Int.reduceAdd, Int.reduceSub, Int.reduceMul, Int.reduceToNat] at ih
      simp (maxSteps := 1000000) (disch := first | omega | (simp only [List.length_cons, List.length_nil, List.length_append, List.length_map, List.length_take, List.length_drop]; omega)) only [go_sem, ↓reduceIte, Nat.reduceSub, Nat.reduceAdd, Nat.reduceMul, Nat.reduceLeDiff, Nat.reduceLT, Nat.reduceEqDiff, Nat.reduceBEq, Int.reduceLE, Int.reduceLT, Int.reduceEq, Int.reduceNeg, Int.reduceAdd, Int.reduceSub, Int.reduceMul, Int.reduceToNat, i_conf_Of_b0, hd, ih, eI_emp, e2, eI_appd, List.cons_append]
    | cons x acc =>
      simp only [List.length_cons] at ha
      simp only [riA_cons, riO_cons, List.cons_append] at ih ⊢
      try simp (maxSteps := 1000000) (disch := first | omega | (simp only [List.length_cons, List.length_nil, List.length_append, List.length_map, List.length_take, List.length_drop]; omega)) only [go_sem, ↓reduceIte, Nat.reduceSub, Nat.reduceAdd, Nat.reduceMul, Nat.reduceLeDiff, Nat.reduceLT, Nat.reduceEqDiff, Nat.reduceBEq, Int.reduceLE, Int.reduceLT, Int.reduceEq, Int.reduceNeg, Int.reduceAdd, Int.reduceSub, Int.reduceMul, Int.reduceToNat] at ih
      simp (maxSteps := 1000000) (disch := first | omega | (simp only [List.length_cons, List.length_nil, List.length_append, List.length_map, List.length_take, List.length_drop]; omega)) only [go_sem, ↓reduceIte, Nat.reduceSub, Nat.reduceAdd, Nat.reduceMul, Nat.reduceLeDiff, Nat.reduceLT, Nat.reduceEqDiff, Nat.reduceBEq, Int.reduceLE, Int.reduceLT, Int.reduceEq, Int.reduceNeg, Int.reduceAdd, Int.reduceSub, Int.reduceMul, Int.reduceToNat, i_conf_Of_b0, hd, ih, eI_emp, e2, eI_appd, List.cons_append]
theorem ofB_len (b : List UInt8) : (ofB b).length = b.length := by simp [ofB]
theorem conf_Of_ev (b : List UInt8) (hb : b.length ≤ 1048576) : Ev tab G0 n_conf_Of [.sl true (eB b)] [] = some (if may (ofB b) = true then [.sl true (eI .i64 (ofB b)), .s .nilIface] else [.sl true [], errA 3], []) := by
  have h1 := conf_May_ev (ofB b) (by rw [ofB_len]; exact hb)
  have h := of_loop b hb b.length 0 [] (by omega) (by simp)
  have e0 : ((0 : Nat) : Int) = 0 := rfl
  have en : eI .i64 [] = [] := rfl
  rw [e0, List.drop_zero, List.nil_append, riA_nil, riO_nil] at h
  refine Ev_run t_conf_Of rfl rfl ?_
  generalize ofB b = r at *
  cases hm : may r
  · rw [hm] at h1
    rw [if_neg (by simp)]
    cases r with
    | nil =>
      rw [riA_nil, riO_nil] at h
      rw [en] at h1
      simp (maxSteps := 1000000) (disch := first | omega | (simp only [List.length_cons, List.length_nil, List.length_append, List.length_map, List.length_take, List.length_drop]; omega)) only [go_sem, ↓reduceIte, Nat.reduceSub, Nat.reduceAdd, Nat.reduceMul, Nat.reduceLeDiff, Nat.reduceLT, Nat.reduceEqDiff, Nat.reduceBEq, Int.reduceLE, Int.reduceLT, Int.reduceEq, Int.reduceNeg, Int.reduceAdd, Int.reduceSub, Int.reduceMul, Int.reduceToNat, i_conf_Of, h1, h]
    | cons x r =>
      rw [riA_cons, riO_cons] at h
      simp (maxSteps := 1000000) (disch := first | omega | (simp only [List.length_cons, List.length_nil, List.length_append, List.length_map, List.length_take, List.length_drop]; omega)) only [go_sem, ↓reduceIte, Nat.reduceSub, Nat.reduceAdd, Nat.reduceMul, Nat.reduceLeDiff, Nat.reduceLT, Nat.reduceEqDiff, Nat.reduceBEq, Int.reduceLE, Int.reduceLT, Int.reduceEq, Int.reduceNeg, Int.reduceAdd, Int.reduceSub, Int.reduceMul, Int.reduceToNat, i_conf_Of, h1, h]
  · rw [hm] at h1
    rw [if_pos rfl]
    cases r with
    | nil =>
      rw [riA_nil, riO_nil] at h
      rw [en] at h1 ⊢
      simp (maxSteps := 1000000) (disch := first | omega | (simp only [List.length_cons, List.length_nil, List.length_append, List.length_map, List.length_take, List.length_drop]; omega)) only [go_sem, ↓reduceIte, Nat.reduceSub, Nat.reduceAdd, Nat.reduceMul, Nat.reduceLeDiff, Nat.reduceLT, Nat.reduceEqDiff, Nat.reduceBEq, Int.reduceLE, Int.reduceLT, Int.reduceEq, Int.reduceNeg, Int.reduceAdd, Int.reduceSub, Int.reduceMul, Int.reduceToNat, i_conf_Of, h1, h]
    | cons x r =>
      rw [riA_cons, riO_cons] at h
      simp (maxSteps := 1000000) (disch := first | omega | (simp only [List.length_cons, List.length_nil, List.length_append, List.length_map, List.length_take, List.length_drop]; omega)) only [go_sem, ↓reduceIte, Nat.reduceSub, Nat.reduceAdd, Nat.reduceMul, Nat.reduceLeDiff, Nat.reduceLT, Nat.reduceEqDiff, Nat.reduceBEq, Int.reduceLE, Int.reduceLT, Int.reduceEq, Int.reduceNeg, Int.reduceAdd, Int.reduceSub, Int.reduceMul, Int.reduceToNat, i_conf_Of, h1, h]
theorem rof_loop (b : List UInt8) (hb : b.length ≤ 1048576) : ∀ (n i : Nat) (acc : List Int), n + i = b.length → acc.length ≤ i → L_ref17_Of_0 (s_ref17_Of_K0 (.sl true (eB b)) (riA acc) (i64 i) [riO acc]) = some (.exit 0, s_ref17_Of_J0 (riA (acc ++ ofB (b.drop i))) [riO (acc ++ ofB (b.drop i))])
  | 0, i, acc, h, ha => by
    rw [List.drop_of_length_le (by omega), L_ref17_Of_0_eq, ofB, List.map_nil, List.append_nil]
    cases acc with
    | nil =>
      simp only [riA_nil, riO_nil]
      simp (maxSteps := 1000000) (disch := first | omega | (simp only [List.length_cons, List.length_nil, List.length_append, List.length_map, List.length_take, List.length_drop]; omega)) only [go_sem, ↓reduceIte, Nat.reduceSub, Nat.reduceAdd, Nat.reduceMul, Nat.reduceLeDiff, Nat.reduceLT, Nat.reduceEqDiff, Nat.reduceBEq, Int.reduceLE, Int.reduceLT, Int.reduceEq, Int.reduceNeg, Int.reduceAdd, Int.reduceSub, Int.reduceMul, Int.reduceToNat, i_ref17_Of_b0]
    | cons x acc =>
      simp only [riA_cons, riO_cons]
      simp (maxSteps := 1000000) (disch := first | omega | (simp only [List.length_cons, List.length_nil, List.length_append, List.length_map, List.length_take, List.length_drop]; omega)) only [go_sem, ↓reduceIte, Nat.reduceSub, Nat.reduceAdd, Nat.reduceMul, Nat.reduceLeDiff, Nat.reduceLT, Nat.reduceEqDiff, Nat.reduceBEq, Int.reduceLE, Int.reduceLT, Int.reduceEq, Int.reduceNeg, Int.reduceAdd, Int.reduceSub, Int.reduceMul, Int.reduceToNat, i_ref17_Of_b0]
  | n + 1, i, acc, h, ha => by
    have ih := rof_loop b hb n (i + 1) (acc ++ [((b.getD i 0).toNat : Int)]) (by omega) (by simp; omega)
    rw [drop_step (d := 0) (by omega), L_ref17_Of_0_eq]
    unfold ofB at ih ⊢
    rw [List.map_cons]
    rw [List.append_assoc, List.singleton_append] at ih
    generalize hd : b.getD i 0 = y at *
    generalize acc ++ (y.toNat : Int) :: (b.drop (i + 1)).map (fun x => (x.toNat : Int)) = r at *
    have e2 : [[C.sc (.int .i64 (y.toNat : Int))]] = eI .i64 [(y.toNat : Int)] := rfl
    cases acc with
    | nil =>
      simp only [riA_nil, riO_nil, riA_cons, riO_cons, List.nil_append] at ih ⊢
      try simp (maxSteps := 1000000) (disch := first | omega | (simp only [List.length_cons, List.length_nil, List.length_append, List.length_map, List.length_take, List.length_drop]; omega)) only [go_sem, ↓reduceIte, Nat.reduceSub, Nat.reduceAdd, Nat.reduceMul, Nat.reduceLeDiff, Nat.reduceLT, Nat.reduceEqDiff, Nat.reduceBEq, Int.reduceLE, Int.reduceLT, Int.reduceEq, Int.reduceNeg, Int.reduceAdd, Int.reduceSub, Int.reduceMul, Int.reduceToNat] at ih
      simp (maxSteps := 1000000) (disch := first | omega | (simp only [List.length_cons, List.length_nil, List.length_append, List.length_map, List.length_take, List.length_drop]; omega)) only [go_sem, ↓reduceIte, Nat.reduceSub, Nat.reduceAdd, Nat.reduceMul, Nat.reduceLeDiff, Nat.reduceLT, Nat.reduceEqDiff, Nat.reduceBEq, Int.reduceLE, Int.reduceLT, Int.reduceEq, Int.reduceNeg, Int.reduceAdd, Int.reduceSub, Int.reduceMul, Int.reduceToNat, i_ref17_Of_b0, hd, ih, eI_emp, e2, eI_appd, List.cons_append]
    | cons x acc =>
      simp only [List.length_cons] at ha
      simp only [riA_cons, riO_cons, List.cons_append] at ih ⊢
      try simp (maxSteps := 1000000) (disch := first | omega | (simp only [List.length_cons, List.length_nil, List.length_append, List.length_map, List.length_take, List.length_drop]; omega)) only [go_sem, ↓reduceIte, Nat.reduceSub, Nat.reduceAdd, Nat.reduceMul, Nat.reduceLeDiff, Nat.reduceLT, Nat.reduceEqDiff, Nat.reduceBEq, Int.reduceLE, Int.reduceLT, Int.reduceEq, Int.reduceNeg, Int.reduceAdd, Int.reduceSub, Int.reduceMul, Int.reduceToNat] at ih
      simp (maxSteps := 1000000) (disch := first | omega | (simp only [List.length_cons, List.length_nil, List.length_append, List.length_map, List.length_take, List.length_drop]; omega)) only [go_sem, ↓reduceIte, Nat.reduceSub, Nat.reduceAdd, Nat.reduceMul, Nat.reduceLeDiff, Nat.reduceLT, Nat.reduceEqDiff, Nat.reduceBEq, Int.reduceLE, Int.reduceLT, Int.reduceEq, Int.reduceNeg, Int.reduceAdd, Int.reduceSub, Int.reduceMul, Int.reduceToNat, i_ref17_Of_b0, hd, ih, eI_emp, e2, eI_appd, List.cons_append]
theorem ref17_Of_ev (b : List UInt8) (hb : b.length ≤ 1048576) : Ev tab G0 n_ref17_Of [.sl true (eB b)] [] = some (if may (ofB b) = true then [.sl true (eI .i64 (ofB b)), bo true] else [.sl true [], bo false], []) := by
  refine Ev_run t_ref17_Of rfl rfl ?_
  by_cases h7 : 7 < b.length
  · have : may (ofB b) = false := by
      cases hm : may (ofB b)
      · rfl
      · have := mayL_len (may_iff.1 hm).1
        rw [ofB_len] at this
        omega
    rw [this, if_neg (by simp)]
    simp (maxSteps := 1000000) (disch := first | omega | (simp only [List.length_cons, List.length_nil, List.length_append, List.length_map, List.length_take, List.length_drop]; omega)) only [go_sem, ↓reduceIte, Nat.reduceSub, Nat.reduceAdd, Nat.reduceMul, Nat.reduceLeDiff, Nat.reduceLT, Nat.reduceEqDiff, Nat.reduceBEq, Int.reduceLE, Int.reduceLT, Int.reduceEq, Int.reduceNeg, Int.reduceAdd, Int.reduceSub, Int.reduceMul, Int.reduceToNat, i_ref17_Of]
  · have h1 := ref17_May_ev (ofB b) (by rw [ofB_len]; exact hb)
    have h := rof_loop b hb b.length 0 [] (by omega) (by simp)
    have e0 : ((0 : Nat) : Int) = 0 := rfl
    have en : eI .i64 [] = [] := rfl
    rw [e0, List.drop_zero, List.nil_append, riA_nil, riO_nil] at h
    generalize ofB b = r at *
    cases hm : may r
    · rw [hm] at h1
      rw [if_neg (by simp)]
      cases r with
      | nil =>
        rw [riA_nil, riO_nil] at h
        rw [en] at h1
        simp (maxSteps := 1000000) (disch := first | omega | (simp only [List.length_cons, List.length_nil, List.length_append, List.length_map, List.length_take, List.length_drop]; omega)) only [go_sem, ↓reduceIte, Nat.reduceSub, Nat.reduceAdd, Nat.reduceMul, Nat.reduceLeDiff, Nat.reduceLT, Nat.reduceEqDiff, Nat.reduceBEq, Int.reduceLE, Int.reduceLT, Int.reduceEq, Int.reduceNeg, Int.reduceAdd, Int.reduceSub, Int.reduceMul, Int.reduceToNat, i_ref17_Of, h1, h]
      | cons x r =>
        rw [riA_cons, riO_cons] at h
        simp (maxSteps := 1000000) (disch := first | omega | (simp only [List.length_cons, List.length_nil, List.length_append, List.length_map, List.length_take, List.length_drop]; omega)) only [go_sem, ↓reduceIte, Nat.reduceSub, Nat.reduceAdd, Nat.reduceMul, Nat.reduceLeDiff, Nat.reduceLT, Nat.reduceEqDiff, Nat.reduceBEq, Int.reduceLE, Int.reduceLT, Int.reduceEq, Int.reduceNeg, Int.reduceAdd, Int.reduceSub, Int.reduceMul, Int.reduceToNat, i_ref17_Of, h1, h]
    · rw [hm] at h1
      rw [if_pos rfl]
      cases r with
      | nil =>
        rw [riA_nil, riO_nil] at h
        rw [en] at h1 ⊢
        simp (maxSteps := 1000000) (disch := first | omega | (simp only [List.length_cons, List.length_nil, List.length_append, List.length_map, List.length_take, List.length_drop]; omega)) only [go_sem, ↓reduceIte, Nat.reduceSub, Nat.reduceAdd, Nat.reduceMul, Nat.reduceLeDiff, Nat.reduceLT, Nat.reduceEqDiff, Nat.reduceBEq, Int.reduceLE, Int.reduceLT, Int.reduceEq, Int.reduceNeg, Int.reduceAdd, Int.reduceSub, Int.reduceMul, Int.reduceToNat, i_ref17_Of, h1, h]
      | cons x r =>
        rw [riA_cons, riO_cons] at h
        simp (maxSteps := 1000000) (disch := first | omega | (simp only [List.length_cons, List.length_nil, List.length_append, List.length_map, List.length_take, List.length_drop]; omega)) only [go_sem, ↓reduceIte, Nat.reduceSub, Nat.reduceAdd, Nat.reduceMul, Nat.reduceLeDiff, Nat.reduceLT, Nat.reduceEqDiff, Nat.reduceBEq, Int.reduceLE, Int.reduceLT, Int.reduceEq, Int.reduceNeg, Int.reduceAdd, Int.reduceSub, Int.reduceMul, Int.reduceToNat, i_ref17_Of, h1, h]
theorem law_ConfBytes (l : List Int) (b : List UInt8) (hl : l.length ≤ 1048576) (hb : b.length ≤ 1048576) : ∃ outs, Ev tab G0 n_law17_ConfBytes [.sl true (eI .i64 l), .sl true (eB b)] [] = some ([bo true], outs) := by
  have h0 := up17_ev
  have h1 := conf_Bytes_ev l hl
  have h2 := conf_Of_ev b hb
  have h3 := ref17_May_ev l hl
  have h4 := ref17_Of_ev b hb
  have h5 := conf_May_ev l hl
  have h6 := ref17_Bytes_ev l hl
  have h7 := ref17_Same_ev (ofB b) (ofB b) (by rw [ofB_len]; exact hb) (by rw [ofB_len]; exact hb)
  rw [decide_eq_true rfl] at h7
  have hw : (l.map byt == l.map byt) = true := beq_self_eq_true _
  generalize l.map byt = w at *
  generalize may l = p at *
  generalize ofB b = o at *
  generalize may o = q at *
  refine ⟨[], Ev_run t_law17_ConfBytes rfl rfl ?_⟩
  cases p
  · rw [if_neg (by simp)] at h1
    cases q
    · rw [if_neg (by simp)] at h2 h4
      simp (maxSteps := 1000000) (disch := first | omega | (simp only [List.length_cons, List.length_nil, List.length_append, List.length_map, List.length_take, List.length_drop]; omega)) only [go_sem, ↓reduceIte, Nat.reduceSub, Nat.reduceAdd, Nat.reduceMul, Nat.reduceLeDiff, Nat.reduceLT, Nat.reduceEqDiff, Nat.reduceBEq, Int.reduceLE, Int.reduceLT, Int.reduceEq, Int.reduceNeg, Int.reduceAdd, Int.reduceSub, Int.reduceMul, Int.reduceToNat, i_law17_ConfBytes, h0, h1, h2, h3, h4, h5, h6]
    · rw [if_pos rfl] at h2 h4
      simp (maxSteps := 1000000) (disch := first | omega | (simp only [List.length_cons, List.length_nil, List.length_append, List.length_map, List.length_take, List.length_drop]; omega)) only [go_sem, ↓reduceIte, Nat.reduceSub, Nat.reduceAdd, Nat.reduceMul, Nat.reduceLeDiff, Nat.reduceLT, Nat.reduceEqDiff, Nat.reduceBEq, Int.reduceLE, Int.reduceLT, Int.reduceEq, Int.reduceNeg, Int.reduceAdd, Int.reduceSub, Int.reduceMul, Int.reduceToNat, i_law17_ConfBytes, h0, h1, h2, h3, h4, h5, h6, h7]
  · rw [if_pos rfl] at h1
    cases q
    · rw [if_neg (by simp)] at h2 h4
      simp (maxSteps := 1000000) (disch := first | omega | (simp only [List.length_cons, List.length_nil, List.length_append, List.length_map, List.length_take, List.length_drop]; omega)) only [go_sem, ↓reduceIte, Nat.reduceSub, Nat.reduceAdd, Nat.reduceMul, Nat.reduceLeDiff, Nat.reduceLT, Nat.reduceEqDiff, Nat.reduceBEq, Int.reduceLE, Int.reduceLT, Int.reduceEq, Int.reduceNeg, Int.reduceAdd, Int.reduceSub, Int.reduceMul, Int.reduceToNat, i_law17_ConfBytes, h0, h1, h2, h3, h4, h5, h6, hw]
    · rw [if_pos rfl] at h2 h4
      simp (maxSteps := 1000000) (disch := first | omega | (simp only [List.length_cons, List.length_nil, List.length_append, List.length_map, List.length_take, List.length_drop]; omega)) only [go_sem, ↓reduceIte, Nat.reduceSub, Nat.reduceAdd, Nat.reduceMul, Nat.reduceLeDiff, Nat.reduceLT, Nat.reduceEqDiff, Nat.reduceBEq, Int.reduceLE, Int.reduceLT, Int.reduceEq, Int.reduceNeg, Int.reduceAdd, Int.reduceSub, Int.reduceMul, Int.reduceToNat, i_law17_ConfBytes, h0, h1, h2, h3, h4, h5, h6, h7, hw]

end Go.Proofs.Ytkfaahjcncpmhaa
