/-
  Bytes that are handed in stay as they are; what was answered stays: the law.
-/
import Derived.Test.YtfbipgidlecmkaaLRaw
import Derived.Test.YtfbipgidlecmkaaLBack
set_option linter.unusedSimpArgs false
set_option linter.unusedVariables false
set_option maxRecDepth 200000
set_option maxHeartbeats 4000000
namespace Go.Proofs.Ytfbipgidlecmkaa
open Go.Ev

theorem Bytes_row (b : List UInt8) (h : b.length ≤ 1073741824) : Ev tab G0 n_coder_Bytes_v1 [.row 0 b.length] [rowB1 b] = some ([.row 1 (byts b).length], [rowB1 b, rowB1 (byts b)]) := by
  have h1 := coder_Number_ev b.length (by omega)
  have h2 := num_len b.length
  have hl : (byts b).length = (num b.length).length + b.length := by rw [byts, List.length_append]
  refine Ev_run t_coder_Bytes_v1 rfl rfl ?_
  simp (maxSteps := 1000000) (disch := first | omega | (simp only [List.length_cons, List.length_nil, List.length_append, List.length_map, List.length_take, List.length_drop]; omega)) only [go_sem, ↓reduceIte, Nat.reduceSub, Nat.reduceAdd, Nat.reduceMul, Nat.reduceLeDiff, Nat.reduceLT, Nat.reduceEqDiff, Nat.reduceBEq, Int.reduceLE, Int.reduceLT, Int.reduceEq, Int.reduceNeg, Int.reduceAdd, Int.reduceSub, Int.reduceMul, Int.reduceToNat, i_coder_Bytes_v1, h1, byts]
theorem Bytes_v1 (b : List UInt8) (h : b.length ≤ 1073741824) : Ev tab G0 n_coder_Bytes_v1 [.sl true (eB b)] [] = some ([.row 0 (byts b).length], [rowB1 (byts b)]) := by
  have h1 := coder_Number_ev b.length (by omega)
  have h2 := num_len b.length
  refine Ev_run t_coder_Bytes_v1 rfl rfl ?_
  simp (maxSteps := 1000000) (disch := first | omega | (simp only [List.length_cons, List.length_nil, List.length_append, List.length_map, List.length_take, List.length_drop]; omega)) only [go_sem, ↓reduceIte, Nat.reduceSub, Nat.reduceAdd, Nat.reduceMul, Nat.reduceLeDiff, Nat.reduceLT, Nat.reduceEqDiff, Nat.reduceBEq, Int.reduceLE, Int.reduceLT, Int.reduceEq, Int.reduceNeg, Int.reduceAdd, Int.reduceSub, Int.reduceMul, Int.reduceToNat, i_coder_Bytes_v1, h1, byts]
theorem NewReader_row (l : List UInt8) (h : l.length ≤ 1073741824) : Ev tab G0 n_coder_NewReader_v1 [.row 0 l.length] [rowB1 l] = some ([.ptr 1 0], [rowB1 l, rO ⟨l, false⟩]) := by
  have h1 := clone_row l h
  refine Ev_run t_coder_NewReader_v1 rfl rfl ?_
  simp (maxSteps := 1000000) (disch := first | omega | (simp only [List.length_cons, List.length_nil, List.length_append, List.length_map, List.length_take, List.length_drop]; omega)) only [go_sem, ↓reduceIte, Nat.reduceSub, Nat.reduceAdd, Nat.reduceMul, Nat.reduceLeDiff, Nat.reduceLT, Nat.reduceEqDiff, Nat.reduceBEq, Int.reduceLE, Int.reduceLT, Int.reduceEq, Int.reduceNeg, Int.reduceAdd, Int.reduceSub, Int.reduceMul, Int.reduceToNat, i_coder_NewReader_v1, h1]
theorem st_loop0 (b x : List UInt8) (r : Rd) : ∀ (n i : Nat) (l : List UInt8), n + i = l.length → l.length ≤ 1048576 → L_law02_CoderStays_0 (s_law02_CoderStays_K0 (.sl true (eB b)) (.row 0 l.length) (.row 1 x.length) (.ptr 2 0) (i64 i) [some (rowB1 l), some (rowB1 x), some (rO r), none]) = some (.exit 0, s_law02_CoderStays_J0 (.sl true (eB b)) (.row 1 x.length) (.ptr 2 0) [none, some (rowB1 x), some (rO r), none])
  | 0, i, l, h, hb => by
    rw [L_law02_CoderStays_0_eq]
    simp (maxSteps := 1000000) (disch := first | omega | (simp only [List.length_cons, List.length_nil, List.length_append, List.length_map, List.length_take, List.length_drop]; omega)) only [go_sem, ↓reduceIte, Nat.reduceSub, Nat.reduceAdd, Nat.reduceMul, Nat.reduceLeDiff, Nat.reduceLT, Nat.reduceEqDiff, Nat.reduceBEq, Int.reduceLE, Int.reduceLT, Int.reduceEq, Int.reduceNeg, Int.reduceAdd, Int.reduceSub, Int.reduceMul, Int.reduceToNat, i_law02_CoderStays_b0]
  | n + 1, i, l, h, hb => by
    have ih := st_loop0 b x r n (i + 1) (l.set i (byt (((l.getD i 0).toNat : Int) + 1))) (by rw [List.length_set]; omega) (by rw [List.length_set]; omega)
    rw [List.length_set] at ih
    rw [L_law02_CoderStays_0_eq]
    generalize hd : l.getD i 0 = y at *
    have hx := y.toNat_lt
    generalize hq : l.set i (byt ((y.toNat : Int) + 1)) = q at *
    try simp (maxSteps := 1000000) (disch := first | omega | (simp only [List.length_cons, List.length_nil, List.length_append, List.length_map, List.length_take, List.length_drop]; omega)) only [go_sem, ↓reduceIte, Nat.reduceSub, Nat.reduceAdd, Nat.reduceMul, Nat.reduceLeDiff, Nat.reduceLT, Nat.reduceEqDiff, Nat.reduceBEq, Int.reduceLE, Int.reduceLT, Int.reduceEq, Int.reduceNeg, Int.reduceAdd, Int.reduceSub, Int.reduceMul, Int.reduceToNat] at ih
    simp (maxSteps := 1000000) (disch := first | omega | (simp only [List.length_cons, List.length_nil, List.length_append, List.length_map, List.length_take, List.length_drop]; omega)) only [go_sem, ↓reduceIte, Nat.reduceSub, Nat.reduceAdd, Nat.reduceMul, Nat.reduceLeDiff, Nat.reduceLT, Nat.reduceEqDiff, Nat.reduceBEq, Int.reduceLE, Int.reduceLT, Int.reduceEq, Int.reduceNeg, Int.reduceAdd, Int.reduceSub, Int.reduceMul, Int.reduceToNat, i_law02_CoderStays_b0, hd, hq, ih]
theorem st_loop1 (b : List UInt8) (r : Rd) : ∀ (n i : Nat) (l : List UInt8), n + i = l.length → l.length ≤ 2000000 → L_law02_CoderStays_1 (s_law02_CoderStays_K1 (.sl true (eB b)) (.row 1 l.length) (.ptr 2 0) (i64 i) [none, some (rowB1 l), some (rO r), none]) = some (.exit 2, s_law02_CoderStays_J2 (.sl true (eB b)) (.ptr 2 0) [none, none, some (rO r), none])
  | 0, i, l, h, hb => by
    rw [L_law02_CoderStays_1_eq]
    simp (maxSteps := 1000000) (disch := first | omega | (simp only [List.length_cons, List.length_nil, List.length_append, List.length_map, List.length_take, List.length_drop]; omega)) only [go_sem, ↓reduceIte, Nat.reduceSub, Nat.reduceAdd, Nat.reduceMul, Nat.reduceLeDiff, Nat.reduceLT, Nat.reduceEqDiff, Nat.reduceBEq, Int.reduceLE, Int.reduceLT, Int.reduceEq, Int.reduceNeg, Int.reduceAdd, Int.reduceSub, Int.reduceMul, Int.reduceToNat, i_law02_CoderStays_b1]
  | n + 1, i, l, h, hb => by
    have ih := st_loop1 b r n (i + 1) (l.set i (byt (((l.getD i 0).toNat : Int) + 1))) (by rw [List.length_set]; omega) (by rw [List.length_set]; omega)
    rw [List.length_set] at ih
    rw [L_law02_CoderStays_1_eq]
    generalize hd : l.getD i 0 = y at *
    have hx := y.toNat_lt
    generalize hq : l.set i (byt ((y.toNat : Int) + 1)) = q at *
    try simp (maxSteps := 1000000) (disch := first | omega | (simp only [List.length_cons, List.length_nil, List.length_append, List.length_map, List.length_take, List.length_drop]; omega)) only [go_sem, ↓reduceIte, Nat.reduceSub, Nat.reduceAdd, Nat.reduceMul, Nat.reduceLeDiff, Nat.reduceLT, Nat.reduceEqDiff, Nat.reduceBEq, Int.reduceLE, Int.reduceLT, Int.reduceEq, Int.reduceNeg, Int.reduceAdd, Int.reduceSub, Int.reduceMul, Int.reduceToNat] at ih
    simp (maxSteps := 1000000) (disch := first | omega | (simp only [List.length_cons, List.length_nil, List.length_append, List.length_map, List.length_take, List.length_drop]; omega)) only [go_sem, ↓reduceIte, Nat.reduceSub, Nat.reduceAdd, Nat.reduceMul, Nat.reduceLeDiff, Nat.reduceLT, Nat.reduceEqDiff, Nat.reduceBEq, Int.reduceLE, Int.reduceLT, Int.reduceEq, Int.reduceNeg, Int.reduceAdd, Int.reduceSub, Int.reduceMul, Int.reduceToNat, i_law02_CoderStays_b1, hd, hq, ih]
theorem law_CoderStays (b : List UInt8) (hb : b.length ≤ 1048576) : ∃ outs, Ev tab G0 n_law02_CoderStays [.sl true (eB b)] [] = some ([bo true], outs) := by
  have h1 := Bytes_row b (by omega)
  have h2 := Bytes_v1 b (by omega)
  have hl : (byts b).length = (num b.length).length + b.length := by rw [byts, List.length_append]
  have hn := num_len b.length
  have h3 := NewReader_row (byts b) (by omega)
  have h4 := coder_ReaderBytes_ev ⟨byts b, false⟩ b.length (by omega) (by simp only; omega)
  have hr := read_byts b (by omega) b.length (by omega) []
  rw [List.append_nil] at hr
  rw [hr] at h4
  simp only at h4
  have h5 := st_loop0 b (byts b) ⟨byts b, false⟩ b.length 0 b (by omega) hb
  have h6 := st_loop1 b ⟨byts b, false⟩ (byts b).length 0 (byts b) (by omega) (by omega)
  have e0 : ((0 : Nat) : Int) = 0 := rfl
  rw [e0] at h5 h6
  have hbb : (b == b) = true := beq_self_eq_true _
  have hxx : (byts b == byts b) = true := beq_self_eq_true _
  have hlt : b.length < (byts b).length := by omega
  generalize byts b = x at *
  refine ⟨[], Ev_run t_law02_CoderStays rfl rfl ?_⟩
  simp (maxSteps := 1000000) (disch := first | omega | (simp only [List.length_cons, List.length_nil, List.length_append, List.length_map, List.length_take, List.length_drop]; omega)) only [go_sem, ↓reduceIte, Nat.reduceSub, Nat.reduceAdd, Nat.reduceMul, Nat.reduceLeDiff, Nat.reduceLT, Nat.reduceEqDiff, Nat.reduceBEq, Int.reduceLE, Int.reduceLT, Int.reduceEq, Int.reduceNeg, Int.reduceAdd, Int.reduceSub, Int.reduceMul, Int.reduceToNat, i_law02_CoderStays, h1, h2, h3, h4, h5, h6, hbb, hxx]

end Go.Proofs.Ytfbipgidlecmkaa
