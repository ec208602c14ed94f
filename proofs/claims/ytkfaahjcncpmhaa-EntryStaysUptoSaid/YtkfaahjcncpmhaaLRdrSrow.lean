/-
  Messages out of bytes that stay (row): the program's reader.
-/
import Derived.Test.YtkfaahjcncpmhaaLRdr9c
import Derived.Test.YtkfaahjcncpmhaaLRead1
set_option linter.unusedSimpArgs false
set_option linter.unusedVariables false
set_option maxRecDepth 200000
set_option maxHeartbeats 4000000
namespace Go.Proofs.Ytkfaahjcncpmhaa
open Go.Ev

theorem Rsrow_false_lt_false_0_0 (b : List UInt8) (hl : ¬ 1048576 < b.length) (x1 x2 x3 x4 x5 x6 x7 : Int) (q1 q2 q3 q4 q5 q6 : Rq) (r7 : Rd) (kd : Int) (r8 : Rd) (x9 : List Ent) (q9 : Rq) (x10 : List Int) (q10 : Rq) (x11 : Int) (r11 : Rd) (x12 : List UInt8) (r12 : Rd) (x13 : List UInt8) (r13 : Rd) (t : T) (hk : ¬ 1 < kd)
    (h0 : Ev tab G0 n_coder_NewReader_v1 [.row 0 b.length] [rowB1 b] = some ([.ptr 1 0], [rowB1 b, rO ⟨b, false⟩]))
    (h1 : Ev tab G0 n_entry_reader_count [.ptr 0 0] [oQ 1 false, rO ⟨b, false⟩] = some ([i64 x1], inQ q1))
    (h2 : Ev tab G0 n_entry_reader_count [.ptr 0 0] (inQ q1) = some ([i64 x2], inQ q2))
    (h3 : Ev tab G0 n_entry_reader_count [.ptr 0 0] (inQ q2) = some ([i64 x3], inQ q3))
    (h4 : Ev tab G0 n_entry_reader_count [.ptr 0 0] (inQ q3) = some ([i64 x4], inQ q4))
    (h5 : Ev tab G0 n_entry_reader_count [.ptr 0 0] (inQ q4) = some ([i64 x5], inQ q5))
    (h6 : Ev tab G0 n_entry_reader_count [.ptr 0 0] (inQ q5) = some ([i64 x6], inQ q6))
    (h7 : Ev tab G0 n_entry_reader_count [.ptr 0 0] (inQ q6) = some ([i64 x7], inQ ⟨r7, false⟩))
    (h8 : Ev tab G0 n_coder_Reader_Byte [.ptr 0 0] [rO r7] = some ([u8 kd], [rO r8]))
    (h9 : Ev tab G0 n_entry_reader_entries [.ptr 0 0] (inQ ⟨r8, false⟩) = some ([.sl true (eE x9)], inQ q9))
    (h10 : Ev tab G0 n_entry_reader_members [.ptr 0 0] (inQ q9) = some ([.sl true (eI .i64 x10)], inQ q10))
    (h11 : Ev tab G0 n_entry_reader_count [.ptr 0 0] (inQ q10) = some ([i64 x11], inQ ⟨r11, false⟩))
    (h12 : Ev tab G0 n_coder_Reader_Bytes [.ptr 0 0, i64 32] [rO r11] = some ([.sl true (eB x12)], [rO r12]))
    (h13 : Ev tab G0 n_coder_Reader_Bytes [.ptr 0 0, i64 1048576] [rO r12] = some ([.sl true (eB x13)], [rO r13]))
    (h14 : Ev tab G0 n_code_Read [.sl true (eB x13)] [] = some ([.agg [i64 t.kind, .sl true (eB t.key), .sl true (eB t.value), .sl true (eB t.digest), .sl true (eT t.kids)], .s .nilIface], []))
    (h15 : Ev tab G0 n_entry_reader_end [.ptr 0 0] (inQ ⟨r13, false⟩) = some ([.s .nilIface], inQ ⟨r13, false⟩)) :
    Ev tab G0 n_entry_Read_v1 [.row 0 b.length] [rowB1 b] = some ([avMsg ⟨x1, x2, x3, x4, x5, x6, x7, decide (kd = 1), x9, x10, x11, x12, t⟩, .s .nilIface], [rowB1 b]) := by
  rw [avMsg_mk]
  refine Ev_run t_entry_Read_v1 rfl rfl ?_
  simp (maxSteps := 1000000) (disch := first | omega | (simp only [lens, List.length_map]; omega)) only [go_sem, ↓reduceIte, Nat.reduceSub, Nat.reduceAdd, Nat.reduceMul, Nat.reduceLeDiff, Nat.reduceLT, Nat.reduceEqDiff, Nat.reduceBEq, Int.reduceLE, Int.reduceLT, Int.reduceEq, Int.reduceNeg, Int.reduceAdd, Int.reduceSub, Int.reduceMul, Int.reduceToNat, i_entry_Read_v1, hl, hk, h0, h1, h2, h3, h4, h5, h6, h7, h8, h9, h10, h11, h12, h13, h14, h15]
theorem Rsrow_false_lt_false_0_3 (b : List UInt8) (hl : ¬ 1048576 < b.length) (x1 x2 x3 x4 x5 x6 x7 : Int) (q1 q2 q3 q4 q5 q6 : Rq) (r7 : Rd) (kd : Int) (r8 : Rd) (x9 : List Ent) (q9 : Rq) (x10 : List Int) (q10 : Rq) (x11 : Int) (r11 : Rd) (x12 : List UInt8) (r12 : Rd) (x13 : List UInt8) (r13 : Rd) (t : T) (hk : ¬ 1 < kd)
    (h0 : Ev tab G0 n_coder_NewReader_v1 [.row 0 b.length] [rowB1 b] = some ([.ptr 1 0], [rowB1 b, rO ⟨b, false⟩]))
    (h1 : Ev tab G0 n_entry_reader_count [.ptr 0 0] [oQ 1 false, rO ⟨b, false⟩] = some ([i64 x1], inQ q1))
    (h2 : Ev tab G0 n_entry_reader_count [.ptr 0 0] (inQ q1) = some ([i64 x2], inQ q2))
    (h3 : Ev tab G0 n_entry_reader_count [.ptr 0 0] (inQ q2) = some ([i64 x3], inQ q3))
    (h4 : Ev tab G0 n_entry_reader_count [.ptr 0 0] (inQ q3) = some ([i64 x4], inQ q4))
    (h5 : Ev tab G0 n_entry_reader_count [.ptr 0 0] (inQ q4) = some ([i64 x5], inQ q5))
    (h6 : Ev tab G0 n_entry_reader_count [.ptr 0 0] (inQ q5) = some ([i64 x6], inQ q6))
    (h7 : Ev tab G0 n_entry_reader_count [.ptr 0 0] (inQ q6) = some ([i64 x7], inQ ⟨r7, false⟩))
    (h8 : Ev tab G0 n_coder_Reader_Byte [.ptr 0 0] [rO r7] = some ([u8 kd], [rO r8]))
    (h9 : Ev tab G0 n_entry_reader_entries [.ptr 0 0] (inQ ⟨r8, false⟩) = some ([.sl true (eE x9)], inQ q9))
    (h10 : Ev tab G0 n_entry_reader_members [.ptr 0 0] (inQ q9) = some ([.sl true (eI .i64 x10)], inQ q10))
    (h11 : Ev tab G0 n_entry_reader_count [.ptr 0 0] (inQ q10) = some ([i64 x11], inQ ⟨r11, false⟩))
    (h12 : Ev tab G0 n_coder_Reader_Bytes [.ptr 0 0, i64 32] [rO r11] = some ([.sl true (eB x12)], [rO r12]))
    (h13 : Ev tab G0 n_coder_Reader_Bytes [.ptr 0 0, i64 1048576] [rO r12] = some ([.sl true (eB x13)], [rO r13]))
    (h14 : Ev tab G0 n_code_Read [.sl true (eB x13)] [] = some ([.agg [i64 t.kind, .sl true (eB t.key), .sl true (eB t.value), .sl true (eB t.digest), .sl true (eT t.kids)], .s .nilIface], []))
    (h15 : Ev tab G0 n_entry_reader_end [.ptr 0 0] (inQ ⟨r13, false⟩) = some ([errA 3], inQ ⟨r13, false⟩)) :
    Ev tab G0 n_entry_Read_v1 [.row 0 b.length] [rowB1 b] = some ([avMsg MG.no, errA 3], [rowB1 b]) := by
  rw [avMsg_no]
  refine Ev_run t_entry_Read_v1 rfl rfl ?_
  simp (maxSteps := 1000000) (disch := first | omega | (simp only [lens, List.length_map]; omega)) only [go_sem, ↓reduceIte, Nat.reduceSub, Nat.reduceAdd, Nat.reduceMul, Nat.reduceLeDiff, Nat.reduceLT, Nat.reduceEqDiff, Nat.reduceBEq, Int.reduceLE, Int.reduceLT, Int.reduceEq, Int.reduceNeg, Int.reduceAdd, Int.reduceSub, Int.reduceMul, Int.reduceToNat, i_entry_Read_v1, hl, hk, h0, h1, h2, h3, h4, h5, h6, h7, h8, h9, h10, h11, h12, h13, h14, h15]
theorem Rsrow_false_lt_false_0_4 (b : List UInt8) (hl : ¬ 1048576 < b.length) (x1 x2 x3 x4 x5 x6 x7 : Int) (q1 q2 q3 q4 q5 q6 : Rq) (r7 : Rd) (kd : Int) (r8 : Rd) (x9 : List Ent) (q9 : Rq) (x10 : List Int) (q10 : Rq) (x11 : Int) (r11 : Rd) (x12 : List UInt8) (r12 : Rd) (x13 : List UInt8) (r13 : Rd) (t : T) (hk : ¬ 1 < kd)
    (h0 : Ev tab G0 n_coder_NewReader_v1 [.row 0 b.length] [rowB1 b] = some ([.ptr 1 0], [rowB1 b, rO ⟨b, false⟩]))
    (h1 : Ev tab G0 n_entry_reader_count [.ptr 0 0] [oQ 1 false, rO ⟨b, false⟩] = some ([i64 x1], inQ q1))
    (h2 : Ev tab G0 n_entry_reader_count [.ptr 0 0] (inQ q1) = some ([i64 x2], inQ q2))
    (h3 : Ev tab G0 n_entry_reader_count [.ptr 0 0] (inQ q2) = some ([i64 x3], inQ q3))
    (h4 : Ev tab G0 n_entry_reader_count [.ptr 0 0] (inQ q3) = some ([i64 x4], inQ q4))
    (h5 : Ev tab G0 n_entry_reader_count [.ptr 0 0] (inQ q4) = some ([i64 x5], inQ q5))
    (h6 : Ev tab G0 n_entry_reader_count [.ptr 0 0] (inQ q5) = some ([i64 x6], inQ q6))
    (h7 : Ev tab G0 n_entry_reader_count [.ptr 0 0] (inQ q6) = some ([i64 x7], inQ ⟨r7, false⟩))
    (h8 : Ev tab G0 n_coder_Reader_Byte [.ptr 0 0] [rO r7] = some ([u8 kd], [rO r8]))
    (h9 : Ev tab G0 n_entry_reader_entries [.ptr 0 0] (inQ ⟨r8, false⟩) = some ([.sl true (eE x9)], inQ q9))
    (h10 : Ev tab G0 n_entry_reader_members [.ptr 0 0] (inQ q9) = some ([.sl true (eI .i64 x10)], inQ q10))
    (h11 : Ev tab G0 n_entry_reader_count [.ptr 0 0] (inQ q10) = some ([i64 x11], inQ ⟨r11, false⟩))
    (h12 : Ev tab G0 n_coder_Reader_Bytes [.ptr 0 0, i64 32] [rO r11] = some ([.sl true (eB x12)], [rO r12]))
    (h13 : Ev tab G0 n_coder_Reader_Bytes [.ptr 0 0, i64 1048576] [rO r12] = some ([.sl true (eB x13)], [rO r13]))
    (h14 : Ev tab G0 n_code_Read [.sl true (eB x13)] [] = some ([.agg [i64 t.kind, .sl true (eB t.key), .sl true (eB t.value), .sl true (eB t.digest), .sl true (eT t.kids)], .s .nilIface], []))
    (h15 : Ev tab G0 n_entry_reader_end [.ptr 0 0] (inQ ⟨r13, false⟩) = some ([errA 4], inQ ⟨r13, false⟩)) :
    Ev tab G0 n_entry_Read_v1 [.row 0 b.length] [rowB1 b] = some ([avMsg MG.no, errA 4], [rowB1 b]) := by
  rw [avMsg_no]
  refine Ev_run t_entry_Read_v1 rfl rfl ?_
  simp (maxSteps := 1000000) (disch := first | omega | (simp only [lens, List.length_map]; omega)) only [go_sem, ↓reduceIte, Nat.reduceSub, Nat.reduceAdd, Nat.reduceMul, Nat.reduceLeDiff, Nat.reduceLT, Nat.reduceEqDiff, Nat.reduceBEq, Int.reduceLE, Int.reduceLT, Int.reduceEq, Int.reduceNeg, Int.reduceAdd, Int.reduceSub, Int.reduceMul, Int.reduceToNat, i_entry_Read_v1, hl, hk, h0, h1, h2, h3, h4, h5, h6, h7, h8, h9, h10, h11, h12, h13, h14, h15]
theorem Rsrow_false_lt_false_n_3 (b : List UInt8) (hl : ¬ 1048576 < b.length) (x1 x2 x3 x4 x5 x6 x7 : Int) (q1 q2 q3 q4 q5 q6 : Rq) (r7 : Rd) (kd : Int) (r8 : Rd) (x9 : List Ent) (q9 : Rq) (x10 : List Int) (q10 : Rq) (x11 : Int) (r11 : Rd) (x12 : List UInt8) (r12 : Rd) (x13 : List UInt8) (r13 : Rd) (t : T) (c : Int) (hk : ¬ 1 < kd)
    (h0 : Ev tab G0 n_coder_NewReader_v1 [.row 0 b.length] [rowB1 b] = some ([.ptr 1 0], [rowB1 b, rO ⟨b, false⟩]))
    (h1 : Ev tab G0 n_entry_reader_count [.ptr 0 0] [oQ 1 false, rO ⟨b, false⟩] = some ([i64 x1], inQ q1))
    (h2 : Ev tab G0 n_entry_reader_count [.ptr 0 0] (inQ q1) = some ([i64 x2], inQ q2))
    (h3 : Ev tab G0 n_entry_reader_count [.ptr 0 0] (inQ q2) = some ([i64 x3], inQ q3))
    (h4 : Ev tab G0 n_entry_reader_count [.ptr 0 0] (inQ q3) = some ([i64 x4], inQ q4))
    (h5 : Ev tab G0 n_entry_reader_count [.ptr 0 0] (inQ q4) = some ([i64 x5], inQ q5))
    (h6 : Ev tab G0 n_entry_reader_count [.ptr 0 0] (inQ q5) = some ([i64 x6], inQ q6))
    (h7 : Ev tab G0 n_entry_reader_count [.ptr 0 0] (inQ q6) = some ([i64 x7], inQ ⟨r7, false⟩))
    (h8 : Ev tab G0 n_coder_Reader_Byte [.ptr 0 0] [rO r7] = some ([u8 kd], [rO r8]))
    (h9 : Ev tab G0 n_entry_reader_entries [.ptr 0 0] (inQ ⟨r8, false⟩) = some ([.sl true (eE x9)], inQ q9))
    (h10 : Ev tab G0 n_entry_reader_members [.ptr 0 0] (inQ q9) = some ([.sl true (eI .i64 x10)], inQ q10))
    (h11 : Ev tab G0 n_entry_reader_count [.ptr 0 0] (inQ q10) = some ([i64 x11], inQ ⟨r11, false⟩))
    (h12 : Ev tab G0 n_coder_Reader_Bytes [.ptr 0 0, i64 32] [rO r11] = some ([.sl true (eB x12)], [rO r12]))
    (h13 : Ev tab G0 n_coder_Reader_Bytes [.ptr 0 0, i64 1048576] [rO r12] = some ([.sl true (eB x13)], [rO r13]))
    (h14 : Ev tab G0 n_code_Read [.sl true (eB x13)] [] = some ([.agg [i64 t.kind, .sl true (eB t.key), .sl true (eB t.value), .sl true (eB t.digest), .sl true (eT t.kids)], errA c], []))
    (h15 : Ev tab G0 n_entry_reader_end [.ptr 0 0] (inQ ⟨r13, true⟩) = some ([errA 3], inQ ⟨r13, true⟩)) :
    Ev tab G0 n_entry_Read_v1 [.row 0 b.length] [rowB1 b] = some ([avMsg MG.no, errA 3], [rowB1 b]) := by
  rw [avMsg_no]
  refine Ev_run t_entry_Read_v1 rfl rfl ?_
  simp (maxSteps := 1000000) (disch := first | omega | (simp only [lens, List.length_map]; omega)) only [go_sem, ↓reduceIte, Nat.reduceSub, Nat.reduceAdd, Nat.reduceMul, Nat.reduceLeDiff, Nat.reduceLT, Nat.reduceEqDiff, Nat.reduceBEq, Int.reduceLE, Int.reduceLT, Int.reduceEq, Int.reduceNeg, Int.reduceAdd, Int.reduceSub, Int.reduceMul, Int.reduceToNat, i_entry_Read_v1, hl, hk, h0, h1, h2, h3, h4, h5, h6, h7, h8, h9, h10, h11, h12, h13, h14, h15]
theorem Rsrow_false_lt_true_0_3 (b : List UInt8) (hl : ¬ 1048576 < b.length) (x1 x2 x3 x4 x5 x6 x7 : Int) (q1 q2 q3 q4 q5 q6 : Rq) (r7 : Rd) (kd : Int) (r8 : Rd) (x9 : List Ent) (q9 : Rq) (x10 : List Int) (q10 : Rq) (x11 : Int) (r11 : Rd) (x12 : List UInt8) (r12 : Rd) (x13 : List UInt8) (r13 : Rd) (t : T) (hk : ¬ 1 < kd)
    (h0 : Ev tab G0 n_coder_NewReader_v1 [.row 0 b.length] [rowB1 b] = some ([.ptr 1 0], [rowB1 b, rO ⟨b, false⟩]))
    (h1 : Ev tab G0 n_entry_reader_count [.ptr 0 0] [oQ 1 false, rO ⟨b, false⟩] = some ([i64 x1], inQ q1))
    (h2 : Ev tab G0 n_entry_reader_count [.ptr 0 0] (inQ q1) = some ([i64 x2], inQ q2))
    (h3 : Ev tab G0 n_entry_reader_count [.ptr 0 0] (inQ q2) = some ([i64 x3], inQ q3))
    (h4 : Ev tab G0 n_entry_reader_count [.ptr 0 0] (inQ q3) = some ([i64 x4], inQ q4))
    (h5 : Ev tab G0 n_entry_reader_count [.ptr 0 0] (inQ q4) = some ([i64 x5], inQ q5))
    (h6 : Ev tab G0 n_entry_reader_count [.ptr 0 0] (inQ q5) = some ([i64 x6], inQ q6))
    (h7 : Ev tab G0 n_entry_reader_count [.ptr 0 0] (inQ q6) = some ([i64 x7], inQ ⟨r7, false⟩))
    (h8 : Ev tab G0 n_coder_Reader_Byte [.ptr 0 0] [rO r7] = some ([u8 kd], [rO r8]))
    (h9 : Ev tab G0 n_entry_reader_entries [.ptr 0 0] (inQ ⟨r8, false⟩) = some ([.sl true (eE x9)], inQ q9))
    (h10 : Ev tab G0 n_entry_reader_members [.ptr 0 0] (inQ q9) = some ([.sl true (eI .i64 x10)], inQ q10))
    (h11 : Ev tab G0 n_entry_reader_count [.ptr 0 0] (inQ q10) = some ([i64 x11], inQ ⟨r11, true⟩))
    (h12 : Ev tab G0 n_coder_Reader_Bytes [.ptr 0 0, i64 32] [rO r11] = some ([.sl true (eB x12)], [rO r12]))
    (h13 : Ev tab G0 n_coder_Reader_Bytes [.ptr 0 0, i64 1048576] [rO r12] = some ([.sl true (eB x13)], [rO r13]))
    (h14 : Ev tab G0 n_code_Read [.sl true (eB x13)] [] = some ([.agg [i64 t.kind, .sl true (eB t.key), .sl true (eB t.value), .sl true (eB t.digest), .sl true (eT t.kids)], .s .nilIface], []))
    (h15 : Ev tab G0 n_entry_reader_end [.ptr 0 0] (inQ ⟨r13, true⟩) = some ([errA 3], inQ ⟨r13, true⟩)) :
    Ev tab G0 n_entry_Read_v1 [.row 0 b.length] [rowB1 b] = some ([avMsg MG.no, errA 3], [rowB1 b]) := by
  rw [avMsg_no]
  refine Ev_run t_entry_Read_v1 rfl rfl ?_
  simp (maxSteps := 1000000) (disch := first | omega | (simp only [lens, List.length_map]; omega)) only [go_sem, ↓reduceIte, Nat.reduceSub, Nat.reduceAdd, Nat.reduceMul, Nat.reduceLeDiff, Nat.reduceLT, Nat.reduceEqDiff, Nat.reduceBEq, Int.reduceLE, Int.reduceLT, Int.reduceEq, Int.reduceNeg, Int.reduceAdd, Int.reduceSub, Int.reduceMul, Int.reduceToNat, i_entry_Read_v1, hl, hk, h0, h1, h2, h3, h4, h5, h6, h7, h8, h9, h10, h11, h12, h13, h14, h15]
theorem Rsrow_false_lt_true_n_3 (b : List UInt8) (hl : ¬ 1048576 < b.length) (x1 x2 x3 x4 x5 x6 x7 : Int) (q1 q2 q3 q4 q5 q6 : Rq) (r7 : Rd) (kd : Int) (r8 : Rd) (x9 : List Ent) (q9 : Rq) (x10 : List Int) (q10 : Rq) (x11 : Int) (r11 : Rd) (x12 : List UInt8) (r12 : Rd) (x13 : List UInt8) (r13 : Rd) (t : T) (c : Int) (hk : ¬ 1 < kd)
    (h0 : Ev tab G0 n_coder_NewReader_v1 [.row 0 b.length] [rowB1 b] = some ([.ptr 1 0], [rowB1 b, rO ⟨b, false⟩]))
    (h1 : Ev tab G0 n_entry_reader_count [.ptr 0 0] [oQ 1 false, rO ⟨b, false⟩] = some ([i64 x1], inQ q1))
    (h2 : Ev tab G0 n_entry_reader_count [.ptr 0 0] (inQ q1) = some ([i64 x2], inQ q2))
    (h3 : Ev tab G0 n_entry_reader_count [.ptr 0 0] (inQ q2) = some ([i64 x3], inQ q3))
    (h4 : Ev tab G0 n_entry_reader_count [.ptr 0 0] (inQ q3) = some ([i64 x4], inQ q4))
    (h5 : Ev tab G0 n_entry_reader_count [.ptr 0 0] (inQ q4) = some ([i64 x5], inQ q5))
    (h6 : Ev tab G0 n_entry_reader_count [.ptr 0 0] (inQ q5) = some ([i64 x6], inQ q6))
    (h7 : Ev tab G0 n_entry_reader_count [.ptr 0 0] (inQ q6) = some ([i64 x7], inQ ⟨r7, false⟩))
    (h8 : Ev tab G0 n_coder_Reader_Byte [.ptr 0 0] [rO r7] = some ([u8 kd], [rO r8]))
    (h9 : Ev tab G0 n_entry_reader_entries [.ptr 0 0] (inQ ⟨r8, false⟩) = some ([.sl true (eE x9)], inQ q9))
    (h10 : Ev tab G0 n_entry_reader_members [.ptr 0 0] (inQ q9) = some ([.sl true (eI .i64 x10)], inQ q10))
    (h11 : Ev tab G0 n_entry_reader_count [.ptr 0 0] (inQ q10) = some ([i64 x11], inQ ⟨r11, true⟩))
    (h12 : Ev tab G0 n_coder_Reader_Bytes [.ptr 0 0, i64 32] [rO r11] = some ([.sl true (eB x12)], [rO r12]))
    (h13 : Ev tab G0 n_coder_Reader_Bytes [.ptr 0 0, i64 1048576] [rO r12] = some ([.sl true (eB x13)], [rO r13]))
    (h14 : Ev tab G0 n_code_Read [.sl true (eB x13)] [] = some ([.agg [i64 t.kind, .sl true (eB t.key), .sl true (eB t.value), .sl true (eB t.digest), .sl true (eT t.kids)], errA c], []))
    (h15 : Ev tab G0 n_entry_reader_end [.ptr 0 0] (inQ ⟨r13, true⟩) = some ([errA 3], inQ ⟨r13, true⟩)) :
    Ev tab G0 n_entry_Read_v1 [.row 0 b.length] [rowB1 b] = some ([avMsg MG.no, errA 3], [rowB1 b]) := by
  rw [avMsg_no]
  refine Ev_run t_entry_Read_v1 rfl rfl ?_
  simp (maxSteps := 1000000) (disch := first | omega | (simp only [lens, List.length_map]; omega)) only [go_sem, ↓reduceIte, Nat.reduceSub, Nat.reduceAdd, Nat.reduceMul, Nat.reduceLeDiff, Nat.reduceLT, Nat.reduceEqDiff, Nat.reduceBEq, Int.reduceLE, Int.reduceLT, Int.reduceEq, Int.reduceNeg, Int.reduceAdd, Int.reduceSub, Int.reduceMul, Int.reduceToNat, i_entry_Read_v1, hl, hk, h0, h1, h2, h3, h4, h5, h6, h7, h8, h9, h10, h11, h12, h13, h14, h15]
theorem Rsrow_false_gt_false_0_3 (b : List UInt8) (hl : ¬ 1048576 < b.length) (x1 x2 x3 x4 x5 x6 x7 : Int) (q1 q2 q3 q4 q5 q6 : Rq) (r7 : Rd) (kd : Int) (r8 : Rd) (x9 : List Ent) (q9 : Rq) (x10 : List Int) (q10 : Rq) (x11 : Int) (r11 : Rd) (x12 : List UInt8) (r12 : Rd) (x13 : List UInt8) (r13 : Rd) (t : T) (hk : 1 < kd)
    (h0 : Ev tab G0 n_coder_NewReader_v1 [.row 0 b.length] [rowB1 b] = some ([.ptr 1 0], [rowB1 b, rO ⟨b, false⟩]))
    (h1 : Ev tab G0 n_entry_reader_count [.ptr 0 0] [oQ 1 false, rO ⟨b, false⟩] = some ([i64 x1], inQ q1))
    (h2 : Ev tab G0 n_entry_reader_count [.ptr 0 0] (inQ q1) = some ([i64 x2], inQ q2))
    (h3 : Ev tab G0 n_entry_reader_count [.ptr 0 0] (inQ q2) = some ([i64 x3], inQ q3))
    (h4 : Ev tab G0 n_entry_reader_count [.ptr 0 0] (inQ q3) = some ([i64 x4], inQ q4))
    (h5 : Ev tab G0 n_entry_reader_count [.ptr 0 0] (inQ q4) = some ([i64 x5], inQ q5))
    (h6 : Ev tab G0 n_entry_reader_count [.ptr 0 0] (inQ q5) = some ([i64 x6], inQ q6))
    (h7 : Ev tab G0 n_entry_reader_count [.ptr 0 0] (inQ q6) = some ([i64 x7], inQ ⟨r7, false⟩))
    (h8 : Ev tab G0 n_coder_Reader_Byte [.ptr 0 0] [rO r7] = some ([u8 kd], [rO r8]))
    (h9 : Ev tab G0 n_entry_reader_entries [.ptr 0 0] (inQ ⟨r8, true⟩) = some ([.sl true (eE x9)], inQ q9))
    (h10 : Ev tab G0 n_entry_reader_members [.ptr 0 0] (inQ q9) = some ([.sl true (eI .i64 x10)], inQ q10))
    (h11 : Ev tab G0 n_entry_reader_count [.ptr 0 0] (inQ q10) = some ([i64 x11], inQ ⟨r11, false⟩))
    (h12 : Ev tab G0 n_coder_Reader_Bytes [.ptr 0 0, i64 32] [rO r11] = some ([.sl true (eB x12)], [rO r12]))
    (h13 : Ev tab G0 n_coder_Reader_Bytes [.ptr 0 0, i64 1048576] [rO r12] = some ([.sl true (eB x13)], [rO r13]))
    (h14 : Ev tab G0 n_code_Read [.sl true (eB x13)] [] = some ([.agg [i64 t.kind, .sl true (eB t.key), .sl true (eB t.value), .sl true (eB t.digest), .sl true (eT t.kids)], .s .nilIface], []))
    (h15 : Ev tab G0 n_entry_reader_end [.ptr 0 0] (inQ ⟨r13, false⟩) = some ([errA 3], inQ ⟨r13, false⟩)) :
    Ev tab G0 n_entry_Read_v1 [.row 0 b.length] [rowB1 b] = some ([avMsg MG.no, errA 3], [rowB1 b]) := by
  rw [avMsg_no]
  refine Ev_run t_entry_Read_v1 rfl rfl ?_
  simp (maxSteps := 1000000) (disch := first | omega | (simp only [lens, List.length_map]; omega)) only [go_sem, ↓reduceIte, Nat.reduceSub, Nat.reduceAdd, Nat.reduceMul, Nat.reduceLeDiff, Nat.reduceLT, Nat.reduceEqDiff, Nat.reduceBEq, Int.reduceLE, Int.reduceLT, Int.reduceEq, Int.reduceNeg, Int.reduceAdd, Int.reduceSub, Int.reduceMul, Int.reduceToNat, i_entry_Read_v1, hl, hk, h0, h1, h2, h3, h4, h5, h6, h7, h8, h9, h10, h11, h12, h13, h14, h15]
theorem Rsrow_false_gt_false_n_3 (b : List UInt8) (hl : ¬ 1048576 < b.length) (x1 x2 x3 x4 x5 x6 x7 : Int) (q1 q2 q3 q4 q5 q6 : Rq) (r7 : Rd) (kd : Int) (r8 : Rd) (x9 : List Ent) (q9 : Rq) (x10 : List Int) (q10 : Rq) (x11 : Int) (r11 : Rd) (x12 : List UInt8) (r12 : Rd) (x13 : List UInt8) (r13 : Rd) (t : T) (c : Int) (hk : 1 < kd)
    (h0 : Ev tab G0 n_coder_NewReader_v1 [.row 0 b.length] [rowB1 b] = some ([.ptr 1 0], [rowB1 b, rO ⟨b, false⟩]))
    (h1 : Ev tab G0 n_entry_reader_count [.ptr 0 0] [oQ 1 false, rO ⟨b, false⟩] = some ([i64 x1], inQ q1))
    (h2 : Ev tab G0 n_entry_reader_count [.ptr 0 0] (inQ q1) = some ([i64 x2], inQ q2))
    (h3 : Ev tab G0 n_entry_reader_count [.ptr 0 0] (inQ q2) = some ([i64 x3], inQ q3))
    (h4 : Ev tab G0 n_entry_reader_count [.ptr 0 0] (inQ q3) = some ([i64 x4], inQ q4))
    (h5 : Ev tab G0 n_entry_reader_count [.ptr 0 0] (inQ q4) = some ([i64 x5], inQ q5))
    (h6 : Ev tab G0 n_entry_reader_count [.ptr 0 0] (inQ q5) = some ([i64 x6], inQ q6))
    (h7 : Ev tab G0 n_entry_reader_count [.ptr 0 0] (inQ q6) = some ([i64 x7], inQ ⟨r7, false⟩))
    (h8 : Ev tab G0 n_coder_Reader_Byte [.ptr 0 0] [rO r7] = some ([u8 kd], [rO r8]))
    (h9 : Ev tab G0 n_entry_reader_entries [.ptr 0 0] (inQ ⟨r8, true⟩) = some ([.sl true (eE x9)], inQ q9))
    (h10 : Ev tab G0 n_entry_reader_members [.ptr 0 0] (inQ q9) = some ([.sl true (eI .i64 x10)], inQ q10))
    (h11 : Ev tab G0 n_entry_reader_count [.ptr 0 0] (inQ q10) = some ([i64 x11], inQ ⟨r11, false⟩))
    (h12 : Ev tab G0 n_coder_Reader_Bytes [.ptr 0 0, i64 32] [rO r11] = some ([.sl true (eB x12)], [rO r12]))
    (h13 : Ev tab G0 n_coder_Reader_Bytes [.ptr 0 0, i64 1048576] [rO r12] = some ([.sl true (eB x13)], [rO r13]))
    (h14 : Ev tab G0 n_code_Read [.sl true (eB x13)] [] = some ([.agg [i64 t.kind, .sl true (eB t.key), .sl true (eB t.value), .sl true (eB t.digest), .sl true (eT t.kids)], errA c], []))
    (h15 : Ev tab G0 n_entry_reader_end [.ptr 0 0] (inQ ⟨r13, true⟩) = some ([errA 3], inQ ⟨r13, true⟩)) :
    Ev tab G0 n_entry_Read_v1 [.row 0 b.length] [rowB1 b] = some ([avMsg MG.no, errA 3], [rowB1 b]) := by
  rw [avMsg_no]
  refine Ev_run t_entry_Read_v1 rfl rfl ?_
  simp (maxSteps := 1000000) (disch := first | omega | (simp only [lens, List.length_map]; omega)) only [go_sem, ↓reduceIte, Nat.reduceSub, Nat.reduceAdd, Nat.reduceMul, Nat.reduceLeDiff, Nat.reduceLT, Nat.reduceEqDiff, Nat.reduceBEq, Int.reduceLE, Int.reduceLT, Int.reduceEq, Int.reduceNeg, Int.reduceAdd, Int.reduceSub, Int.reduceMul, Int.reduceToNat, i_entry_Read_v1, hl, hk, h0, h1, h2, h3, h4, h5, h6, h7, h8, h9, h10, h11, h12, h13, h14, h15]
theorem Rsrow_false_gt_true_0_3 (b : List UInt8) (hl : ¬ 1048576 < b.length) (x1 x2 x3 x4 x5 x6 x7 : Int) (q1 q2 q3 q4 q5 q6 : Rq) (r7 : Rd) (kd : Int) (r8 : Rd) (x9 : List Ent) (q9 : Rq) (x10 : List Int) (q10 : Rq) (x11 : Int) (r11 : Rd) (x12 : List UInt8) (r12 : Rd) (x13 : List UInt8) (r13 : Rd) (t : T) (hk : 1 < kd)
    (h0 : Ev tab G0 n_coder_NewReader_v1 [.row 0 b.length] [rowB1 b] = some ([.ptr 1 0], [rowB1 b, rO ⟨b, false⟩]))
    (h1 : Ev tab G0 n_entry_reader_count [.ptr 0 0] [oQ 1 false, rO ⟨b, false⟩] = some ([i64 x1], inQ q1))
    (h2 : Ev tab G0 n_entry_reader_count [.ptr 0 0] (inQ q1) = some ([i64 x2], inQ q2))
    (h3 : Ev tab G0 n_entry_reader_count [.ptr 0 0] (inQ q2) = some ([i64 x3], inQ q3))
    (h4 : Ev tab G0 n_entry_reader_count [.ptr 0 0] (inQ q3) = some ([i64 x4], inQ q4))
    (h5 : Ev tab G0 n_entry_reader_count [.ptr 0 0] (inQ q4) = some ([i64 x5], inQ q5))
    (h6 : Ev tab G0 n_entry_reader_count [.ptr 0 0] (inQ q5) = some ([i64 x6], inQ q6))
    (h7 : Ev tab G0 n_entry_reader_count [.ptr 0 0] (inQ q6) = some ([i64 x7], inQ ⟨r7, false⟩))
    (h8 : Ev tab G0 n_coder_Reader_Byte [.ptr 0 0] [rO r7] = some ([u8 kd], [rO r8]))
    (h9 : Ev tab G0 n_entry_reader_entries [.ptr 0 0] (inQ ⟨r8, true⟩) = some ([.sl true (eE x9)], inQ q9))
    (h10 : Ev tab G0 n_entry_reader_members [.ptr 0 0] (inQ q9) = some ([.sl true (eI .i64 x10)], inQ q10))
    (h11 : Ev tab G0 n_entry_reader_count [.ptr 0 0] (inQ q10) = some ([i64 x11], inQ ⟨r11, true⟩))
    (h12 : Ev tab G0 n_coder_Reader_Bytes [.ptr 0 0, i64 32] [rO r11] = some ([.sl true (eB x12)], [rO r12]))
    (h13 : Ev tab G0 n_coder_Reader_Bytes [.ptr 0 0, i64 1048576] [rO r12] = some ([.sl true (eB x13)], [rO r13]))
    (h14 : Ev tab G0 n_code_Read [.sl true (eB x13)] [] = some ([.agg [i64 t.kind, .sl true (eB t.key), .sl true (eB t.value), .sl true (eB t.digest), .sl true (eT t.kids)], .s .nilIface], []))
    (h15 : Ev tab G0 n_entry_reader_end [.ptr 0 0] (inQ ⟨r13, true⟩) = some ([errA 3], inQ ⟨r13, true⟩)) :
    Ev tab G0 n_entry_Read_v1 [.row 0 b.length] [rowB1 b] = some ([avMsg MG.no, errA 3], [rowB1 b]) := by
  rw [avMsg_no]
  refine Ev_run t_entry_Read_v1 rfl rfl ?_
  simp (maxSteps := 1000000) (disch := first | omega | (simp only [lens, List.length_map]; omega)) only [go_sem, ↓reduceIte, Nat.reduceSub, Nat.reduceAdd, Nat.reduceMul, Nat.reduceLeDiff, Nat.reduceLT, Nat.reduceEqDiff, Nat.reduceBEq, Int.reduceLE, Int.reduceLT, Int.reduceEq, Int.reduceNeg, Int.reduceAdd, Int.reduceSub, Int.reduceMul, Int.reduceToNat, i_entry_Read_v1, hl, hk, h0, h1, h2, h3, h4, h5, h6, h7, h8, h9, h10, h11, h12, h13, h14, h15]
theorem Rsrow_false_gt_true_n_3 (b : List UInt8) (hl : ¬ 1048576 < b.length) (x1 x2 x3 x4 x5 x6 x7 : Int) (q1 q2 q3 q4 q5 q6 : Rq) (r7 : Rd) (kd : Int) (r8 : Rd) (x9 : List Ent) (q9 : Rq) (x10 : List Int) (q10 : Rq) (x11 : Int) (r11 : Rd) (x12 : List UInt8) (r12 : Rd) (x13 : List UInt8) (r13 : Rd) (t : T) (c : Int) (hk : 1 < kd)
    (h0 : Ev tab G0 n_coder_NewReader_v1 [.row 0 b.length] [rowB1 b] = some ([.ptr 1 0], [rowB1 b, rO ⟨b, false⟩]))
    (h1 : Ev tab G0 n_entry_reader_count [.ptr 0 0] [oQ 1 false, rO ⟨b, false⟩] = some ([i64 x1], inQ q1))
    (h2 : Ev tab G0 n_entry_reader_count [.ptr 0 0] (inQ q1) = some ([i64 x2], inQ q2))
    (h3 : Ev tab G0 n_entry_reader_count [.ptr 0 0] (inQ q2) = some ([i64 x3], inQ q3))
    (h4 : Ev tab G0 n_entry_reader_count [.ptr 0 0] (inQ q3) = some ([i64 x4], inQ q4))
    (h5 : Ev tab G0 n_entry_reader_count [.ptr 0 0] (inQ q4) = some ([i64 x5], inQ q5))
    (h6 : Ev tab G0 n_entry_reader_count [.ptr 0 0] (inQ q5) = some ([i64 x6], inQ q6))
    (h7 : Ev tab G0 n_entry_reader_count [.ptr 0 0] (inQ q6) = some ([i64 x7], inQ ⟨r7, false⟩))
    (h8 : Ev tab G0 n_coder_Reader_Byte [.ptr 0 0] [rO r7] = some ([u8 kd], [rO r8]))
    (h9 : Ev tab G0 n_entry_reader_entries [.ptr 0 0] (inQ ⟨r8, true⟩) = some ([.sl true (eE x9)], inQ q9))
    (h10 : Ev tab G0 n_entry_reader_members [.ptr 0 0] (inQ q9) = some ([.sl true (eI .i64 x10)], inQ q10))
    (h11 : Ev tab G0 n_entry_reader_count [.ptr 0 0] (inQ q10) = some ([i64 x11], inQ ⟨r11, true⟩))
    (h12 : Ev tab G0 n_coder_Reader_Bytes [.ptr 0 0, i64 32] [rO r11] = some ([.sl true (eB x12)], [rO r12]))
    (h13 : Ev tab G0 n_coder_Reader_Bytes [.ptr 0 0, i64 1048576] [rO r12] = some ([.sl true (eB x13)], [rO r13]))
    (h14 : Ev tab G0 n_code_Read [.sl true (eB x13)] [] = some ([.agg [i64 t.kind, .sl true (eB t.key), .sl true (eB t.value), .sl true (eB t.digest), .sl true (eT t.kids)], errA c], []))
    (h15 : Ev tab G0 n_entry_reader_end [.ptr 0 0] (inQ ⟨r13, true⟩) = some ([errA 3], inQ ⟨r13, true⟩)) :
    Ev tab G0 n_entry_Read_v1 [.row 0 b.length] [rowB1 b] = some ([avMsg MG.no, errA 3], [rowB1 b]) := by
  rw [avMsg_no]
  refine Ev_run t_entry_Read_v1 rfl rfl ?_
  simp (maxSteps := 1000000) (disch := first | omega | (simp only [lens, List.length_map]; omega)) only [go_sem, ↓reduceIte, Nat.reduceSub, Nat.reduceAdd, Nat.reduceMul, Nat.reduceLeDiff, Nat.reduceLT, Nat.reduceEqDiff, Nat.reduceBEq, Int.reduceLE, Int.reduceLT, Int.reduceEq, Int.reduceNeg, Int.reduceAdd, Int.reduceSub, Int.reduceMul, Int.reduceToNat, i_entry_Read_v1, hl, hk, h0, h1, h2, h3, h4, h5, h6, h7, h8, h9, h10, h11, h12, h13, h14, h15]
theorem Rsrow_true_lt_false_0_3 (b : List UInt8) (hl : ¬ 1048576 < b.length) (x1 x2 x3 x4 x5 x6 x7 : Int) (q1 q2 q3 q4 q5 q6 : Rq) (r7 : Rd) (kd : Int) (r8 : Rd) (x9 : List Ent) (q9 : Rq) (x10 : List Int) (q10 : Rq) (x11 : Int) (r11 : Rd) (x12 : List UInt8) (r12 : Rd) (x13 : List UInt8) (r13 : Rd) (t : T) (hk : ¬ 1 < kd)
    (h0 : Ev tab G0 n_coder_NewReader_v1 [.row 0 b.length] [rowB1 b] = some ([.ptr 1 0], [rowB1 b, rO ⟨b, false⟩]))
    (h1 : Ev tab G0 n_entry_reader_count [.ptr 0 0] [oQ 1 false, rO ⟨b, false⟩] = some ([i64 x1], inQ q1))
    (h2 : Ev tab G0 n_entry_reader_count [.ptr 0 0] (inQ q1) = some ([i64 x2], inQ q2))
    (h3 : Ev tab G0 n_entry_reader_count [.ptr 0 0] (inQ q2) = some ([i64 x3], inQ q3))
    (h4 : Ev tab G0 n_entry_reader_count [.ptr 0 0] (inQ q3) = some ([i64 x4], inQ q4))
    (h5 : Ev tab G0 n_entry_reader_count [.ptr 0 0] (inQ q4) = some ([i64 x5], inQ q5))
    (h6 : Ev tab G0 n_entry_reader_count [.ptr 0 0] (inQ q5) = some ([i64 x6], inQ q6))
    (h7 : Ev tab G0 n_entry_reader_count [.ptr 0 0] (inQ q6) = some ([i64 x7], inQ ⟨r7, true⟩))
    (h8 : Ev tab G0 n_coder_Reader_Byte [.ptr 0 0] [rO r7] = some ([u8 kd], [rO r8]))
    (h9 : Ev tab G0 n_entry_reader_entries [.ptr 0 0] (inQ ⟨r8, true⟩) = some ([.sl true (eE x9)], inQ q9))
    (h10 : Ev tab G0 n_entry_reader_members [.ptr 0 0] (inQ q9) = some ([.sl true (eI .i64 x10)], inQ q10))
    (h11 : Ev tab G0 n_entry_reader_count [.ptr 0 0] (inQ q10) = some ([i64 x11], inQ ⟨r11, false⟩))
    (h12 : Ev tab G0 n_coder_Reader_Bytes [.ptr 0 0, i64 32] [rO r11] = some ([.sl true (eB x12)], [rO r12]))
    (h13 : Ev tab G0 n_coder_Reader_Bytes [.ptr 0 0, i64 1048576] [rO r12] = some ([.sl true (eB x13)], [rO r13]))
    (h14 : Ev tab G0 n_code_Read [.sl true (eB x13)] [] = some ([.agg [i64 t.kind, .sl true (eB t.key), .sl true (eB t.value), .sl true (eB t.digest), .sl true (eT t.kids)], .s .nilIface], []))
    (h15 : Ev tab G0 n_entry_reader_end [.ptr 0 0] (inQ ⟨r13, false⟩) = some ([errA 3], inQ ⟨r13, false⟩)) :
    Ev tab G0 n_entry_Read_v1 [.row 0 b.length] [rowB1 b] = some ([avMsg MG.no, errA 3], [rowB1 b]) := by
  rw [avMsg_no]
  refine Ev_run t_entry_Read_v1 rfl rfl ?_
  simp (maxSteps := 1000000) (disch := first | omega | (simp only [lens, List.length_map]; omega)) only [go_sem, ↓reduceIte, Nat.reduceSub, Nat.reduceAdd, Nat.reduceMul, Nat.reduceLeDiff, Nat.reduceLT, Nat.reduceEqDiff, Nat.reduceBEq, Int.reduceLE, Int.reduceLT, Int.reduceEq, Int.reduceNeg, Int.reduceAdd, Int.reduceSub, Int.reduceMul, Int.reduceToNat, i_entry_Read_v1, hl, hk, h0, h1, h2, h3, h4, h5, h6, h7, h8, h9, h10, h11, h12, h13, h14, h15]
theorem Rsrow_true_lt_false_n_3 (b : List UInt8) (hl : ¬ 1048576 < b.length) (x1 x2 x3 x4 x5 x6 x7 : Int) (q1 q2 q3 q4 q5 q6 : Rq) (r7 : Rd) (kd : Int) (r8 : Rd) (x9 : List Ent) (q9 : Rq) (x10 : List Int) (q10 : Rq) (x11 : Int) (r11 : Rd) (x12 : List UInt8) (r12 : Rd) (x13 : List UInt8) (r13 : Rd) (t : T) (c : Int) (hk : ¬ 1 < kd)
    (h0 : Ev tab G0 n_coder_NewReader_v1 [.row 0 b.length] [rowB1 b] = some ([.ptr 1 0], [rowB1 b, rO ⟨b, false⟩]))
    (h1 : Ev tab G0 n_entry_reader_count [.ptr 0 0] [oQ 1 false, rO ⟨b, false⟩] = some ([i64 x1], inQ q1))
    (h2 : Ev tab G0 n_entry_reader_count [.ptr 0 0] (inQ q1) = some ([i64 x2], inQ q2))
    (h3 : Ev tab G0 n_entry_reader_count [.ptr 0 0] (inQ q2) = some ([i64 x3], inQ q3))
    (h4 : Ev tab G0 n_entry_reader_count [.ptr 0 0] (inQ q3) = some ([i64 x4], inQ q4))
    (h5 : Ev tab G0 n_entry_reader_count [.ptr 0 0] (inQ q4) = some ([i64 x5], inQ q5))
    (h6 : Ev tab G0 n_entry_reader_count [.ptr 0 0] (inQ q5) = some ([i64 x6], inQ q6))
    (h7 : Ev tab G0 n_entry_reader_count [.ptr 0 0] (inQ q6) = some ([i64 x7], inQ ⟨r7, true⟩))
    (h8 : Ev tab G0 n_coder_Reader_Byte [.ptr 0 0] [rO r7] = some ([u8 kd], [rO r8]))
    (h9 : Ev tab G0 n_entry_reader_entries [.ptr 0 0] (inQ ⟨r8, true⟩) = some ([.sl true (eE x9)], inQ q9))
    (h10 : Ev tab G0 n_entry_reader_members [.ptr 0 0] (inQ q9) = some ([.sl true (eI .i64 x10)], inQ q10))
    (h11 : Ev tab G0 n_entry_reader_count [.ptr 0 0] (inQ q10) = some ([i64 x11], inQ ⟨r11, false⟩))
    (h12 : Ev tab G0 n_coder_Reader_Bytes [.ptr 0 0, i64 32] [rO r11] = some ([.sl true (eB x12)], [rO r12]))
    (h13 : Ev tab G0 n_coder_Reader_Bytes [.ptr 0 0, i64 1048576] [rO r12] = some ([.sl true (eB x13)], [rO r13]))
    (h14 : Ev tab G0 n_code_Read [.sl true (eB x13)] [] = some ([.agg [i64 t.kind, .sl true (eB t.key), .sl true (eB t.value), .sl true (eB t.digest), .sl true (eT t.kids)], errA c], []))
    (h15 : Ev tab G0 n_entry_reader_end [.ptr 0 0] (inQ ⟨r13, true⟩) = some ([errA 3], inQ ⟨r13, true⟩)) :
    Ev tab G0 n_entry_Read_v1 [.row 0 b.length] [rowB1 b] = some ([avMsg MG.no, errA 3], [rowB1 b]) := by
  rw [avMsg_no]
  refine Ev_run t_entry_Read_v1 rfl rfl ?_
  simp (maxSteps := 1000000) (disch := first | omega | (simp only [lens, List.length_map]; omega)) only [go_sem, ↓reduceIte, Nat.reduceSub, Nat.reduceAdd, Nat.reduceMul, Nat.reduceLeDiff, Nat.reduceLT, Nat.reduceEqDiff, Nat.reduceBEq, Int.reduceLE, Int.reduceLT, Int.reduceEq, Int.reduceNeg, Int.reduceAdd, Int.reduceSub, Int.reduceMul, Int.reduceToNat, i_entry_Read_v1, hl, hk, h0, h1, h2, h3, h4, h5, h6, h7, h8, h9, h10, h11, h12, h13, h14, h15]
theorem Rsrow_true_lt_true_0_3 (b : List UInt8) (hl : ¬ 1048576 < b.length) (x1 x2 x3 x4 x5 x6 x7 : Int) (q1 q2 q3 q4 q5 q6 : Rq) (r7 : Rd) (kd : Int) (r8 : Rd) (x9 : List Ent) (q9 : Rq) (x10 : List Int) (q10 : Rq) (x11 : Int) (r11 : Rd) (x12 : List UInt8) (r12 : Rd) (x13 : List UInt8) (r13 : Rd) (t : T) (hk : ¬ 1 < kd)
    (h0 : Ev tab G0 n_coder_NewReader_v1 [.row 0 b.length] [rowB1 b] = some ([.ptr 1 0], [rowB1 b, rO ⟨b, false⟩]))
    (h1 : Ev tab G0 n_entry_reader_count [.ptr 0 0] [oQ 1 false, rO ⟨b, false⟩] = some ([i64 x1], inQ q1))
    (h2 : Ev tab G0 n_entry_reader_count [.ptr 0 0] (inQ q1) = some ([i64 x2], inQ q2))
    (h3 : Ev tab G0 n_entry_reader_count [.ptr 0 0] (inQ q2) = some ([i64 x3], inQ q3))
    (h4 : Ev tab G0 n_entry_reader_count [.ptr 0 0] (inQ q3) = some ([i64 x4], inQ q4))
    (h5 : Ev tab G0 n_entry_reader_count [.ptr 0 0] (inQ q4) = some ([i64 x5], inQ q5))
    (h6 : Ev tab G0 n_entry_reader_count [.ptr 0 0] (inQ q5) = some ([i64 x6], inQ q6))
    (h7 : Ev tab G0 n_entry_reader_count [.ptr 0 0] (inQ q6) = some ([i64 x7], inQ ⟨r7, true⟩))
    (h8 : Ev tab G0 n_coder_Reader_Byte [.ptr 0 0] [rO r7] = some ([u8 kd], [rO r8]))
    (h9 : Ev tab G0 n_entry_reader_entries [.ptr 0 0] (inQ ⟨r8, true⟩) = some ([.sl true (eE x9)], inQ q9))
    (h10 : Ev tab G0 n_entry_reader_members [.ptr 0 0] (inQ q9) = some ([.sl true (eI .i64 x10)], inQ q10))
    (h11 : Ev tab G0 n_entry_reader_count [.ptr 0 0] (inQ q10) = some ([i64 x11], inQ ⟨r11, true⟩))
    (h12 : Ev tab G0 n_coder_Reader_Bytes [.ptr 0 0, i64 32] [rO r11] = some ([.sl true (eB x12)], [rO r12]))
    (h13 : Ev tab G0 n_coder_Reader_Bytes [.ptr 0 0, i64 1048576] [rO r12] = some ([.sl true (eB x13)], [rO r13]))
    (h14 : Ev tab G0 n_code_Read [.sl true (eB x13)] [] = some ([.agg [i64 t.kind, .sl true (eB t.key), .sl true (eB t.value), .sl true (eB t.digest), .sl true (eT t.kids)], .s .nilIface], []))
    (h15 : Ev tab G0 n_entry_reader_end [.ptr 0 0] (inQ ⟨r13, true⟩) = some ([errA 3], inQ ⟨r13, true⟩)) :
    Ev tab G0 n_entry_Read_v1 [.row 0 b.length] [rowB1 b] = some ([avMsg MG.no, errA 3], [rowB1 b]) := by
  rw [avMsg_no]
  refine Ev_run t_entry_Read_v1 rfl rfl ?_
  simp (maxSteps := 1000000) (disch := first | omega | (simp only [lens, List.length_map]; omega)) only [go_sem, ↓reduceIte, Nat.reduceSub, Nat.reduceAdd, Nat.reduceMul, Nat.reduceLeDiff, Nat.reduceLT, Nat.reduceEqDiff, Nat.reduceBEq, Int.reduceLE, Int.reduceLT, Int.reduceEq, Int.reduceNeg, Int.reduceAdd, Int.reduceSub, Int.reduceMul, Int.reduceToNat, i_entry_Read_v1, hl, hk, h0, h1, h2, h3, h4, h5, h6, h7, h8, h9, h10, h11, h12, h13, h14, h15]
theorem Rsrow_true_lt_true_n_3 (b : List UInt8) (hl : ¬ 1048576 < b.length) (x1 x2 x3 x4 x5 x6 x7 : Int) (q1 q2 q3 q4 q5 q6 : Rq) (r7 : Rd) (kd : Int) (r8 : Rd) (x9 : List Ent) (q9 : Rq) (x10 : List Int) (q10 : Rq) (x11 : Int) (r11 : Rd) (x12 : List UInt8) (r12 : Rd) (x13 : List UInt8) (r13 : Rd) (t : T) (c : Int) (hk : ¬ 1 < kd)
    (h0 : Ev tab G0 n_coder_NewReader_v1 [.row 0 b.length] [rowB1 b] = some ([.ptr 1 0], [rowB1 b, rO ⟨b, false⟩]))
    (h1 : Ev tab G0 n_entry_reader_count [.ptr 0 0] [oQ 1 false, rO ⟨b, false⟩] = some ([i64 x1], inQ q1))
    (h2 : Ev tab G0 n_entry_reader_count [.ptr 0 0] (inQ q1) = some ([i64 x2], inQ q2))
    (h3 : Ev tab G0 n_entry_reader_count [.ptr 0 0] (inQ q2) = some ([i64 x3], inQ q3))
    (h4 : Ev tab G0 n_entry_reader_count [.ptr 0 0] (inQ q3) = some ([i64 x4], inQ q4))
    (h5 : Ev tab G0 n_entry_reader_count [.ptr 0 0] (inQ q4) = some ([i64 x5], inQ q5))
    (h6 : Ev tab G0 n_entry_reader_count [.ptr 0 0] (inQ q5) = some ([i64 x6], inQ q6))
    (h7 : Ev tab G0 n_entry_reader_count [.ptr 0 0] (inQ q6) = some ([i64 x7], inQ ⟨r7, true⟩))
    (h8 : Ev tab G0 n_coder_Reader_Byte [.ptr 0 0] [rO r7] = some ([u8 kd], [rO r8]))
    (h9 : Ev tab G0 n_entry_reader_entries [.ptr 0 0] (inQ ⟨r8, true⟩) = some ([.sl true (eE x9)], inQ q9))
    (h10 : Ev tab G0 n_entry_reader_members [.ptr 0 0] (inQ q9) = some ([.sl true (eI .i64 x10)], inQ q10))
    (h11 : Ev tab G0 n_entry_reader_count [.ptr 0 0] (inQ q10) = some ([i64 x11], inQ ⟨r11, true⟩))
    (h12 : Ev tab G0 n_coder_Reader_Bytes [.ptr 0 0, i64 32] [rO r11] = some ([.sl true (eB x12)], [rO r12]))
    (h13 : Ev tab G0 n_coder_Reader_Bytes [.ptr 0 0, i64 1048576] [rO r12] = some ([.sl true (eB x13)], [rO r13]))
    (h14 : Ev tab G0 n_code_Read [.sl true (eB x13)] [] = some ([.agg [i64 t.kind, .sl true (eB t.key), .sl true (eB t.value), .sl true (eB t.digest), .sl true (eT t.kids)], errA c], []))
    (h15 : Ev tab G0 n_entry_reader_end [.ptr 0 0] (inQ ⟨r13, true⟩) = some ([errA 3], inQ ⟨r13, true⟩)) :
    Ev tab G0 n_entry_Read_v1 [.row 0 b.length] [rowB1 b] = some ([avMsg MG.no, errA 3], [rowB1 b]) := by
  rw [avMsg_no]
  refine Ev_run t_entry_Read_v1 rfl rfl ?_
  simp (maxSteps := 1000000) (disch := first | omega | (simp only [lens, List.length_map]; omega)) only [go_sem, ↓reduceIte, Nat.reduceSub, Nat.reduceAdd, Nat.reduceMul, Nat.reduceLeDiff, Nat.reduceLT, Nat.reduceEqDiff, Nat.reduceBEq, Int.reduceLE, Int.reduceLT, Int.reduceEq, Int.reduceNeg, Int.reduceAdd, Int.reduceSub, Int.reduceMul, Int.reduceToNat, i_entry_Read_v1, hl, hk, h0, h1, h2, h3, h4, h5, h6, h7, h8, h9, h10, h11, h12, h13, h14, h15]
theorem Rsrow_true_gt_false_0_3 (b : List UInt8) (hl : ¬ 1048576 < b.length) (x1 x2 x3 x4 x5 x6 x7 : Int) (q1 q2 q3 q4 q5 q6 : Rq) (r7 : Rd) (kd : Int) (r8 : Rd) (x9 : List Ent) (q9 : Rq) (x10 : List Int) (q10 : Rq) (x11 : Int) (r11 : Rd) (x12 : List UInt8) (r12 : Rd) (x13 : List UInt8) (r13 : Rd) (t : T) (hk : 1 < kd)
    (h0 : Ev tab G0 n_coder_NewReader_v1 [.row 0 b.length] [rowB1 b] = some ([.ptr 1 0], [rowB1 b, rO ⟨b, false⟩]))
    (h1 : Ev tab G0 n_entry_reader_count [.ptr 0 0] [oQ 1 false, rO ⟨b, false⟩] = some ([i64 x1], inQ q1))
    (h2 : Ev tab G0 n_entry_reader_count [.ptr 0 0] (inQ q1) = some ([i64 x2], inQ q2))
    (h3 : Ev tab G0 n_entry_reader_count [.ptr 0 0] (inQ q2) = some ([i64 x3], inQ q3))
    (h4 : Ev tab G0 n_entry_reader_count [.ptr 0 0] (inQ q3) = some ([i64 x4], inQ q4))
    (h5 : Ev tab G0 n_entry_reader_count [.ptr 0 0] (inQ q4) = some ([i64 x5], inQ q5))
    (h6 : Ev tab G0 n_entry_reader_count [.ptr 0 0] (inQ q5) = some ([i64 x6], inQ q6))
    (h7 : Ev tab G0 n_entry_reader_count [.ptr 0 0] (inQ q6) = some ([i64 x7], inQ ⟨r7, true⟩))
    (h8 : Ev tab G0 n_coder_Reader_Byte [.ptr 0 0] [rO r7] = some ([u8 kd], [rO r8]))
    (h9 : Ev tab G0 n_entry_reader_entries [.ptr 0 0] (inQ ⟨r8, true⟩) = some ([.sl true (eE x9)], inQ q9))
    (h10 : Ev tab G0 n_entry_reader_members [.ptr 0 0] (inQ q9) = some ([.sl true (eI .i64 x10)], inQ q10))
    (h11 : Ev tab G0 n_entry_reader_count [.ptr 0 0] (inQ q10) = some ([i64 x11], inQ ⟨r11, false⟩))
    (h12 : Ev tab G0 n_coder_Reader_Bytes [.ptr 0 0, i64 32] [rO r11] = some ([.sl true (eB x12)], [rO r12]))
    (h13 : Ev tab G0 n_coder_Reader_Bytes [.ptr 0 0, i64 1048576] [rO r12] = some ([.sl true (eB x13)], [rO r13]))
    (h14 : Ev tab G0 n_code_Read [.sl true (eB x13)] [] = some ([.agg [i64 t.kind, .sl true (eB t.key), .sl true (eB t.value), .sl true (eB t.digest), .sl true (eT t.kids)], .s .nilIface], []))
    (h15 : Ev tab G0 n_entry_reader_end [.ptr 0 0] (inQ ⟨r13, false⟩) = some ([errA 3], inQ ⟨r13, false⟩)) :
    Ev tab G0 n_entry_Read_v1 [.row 0 b.length] [rowB1 b] = some ([avMsg MG.no, errA 3], [rowB1 b]) := by
  rw [avMsg_no]
  refine Ev_run t_entry_Read_v1 rfl rfl ?_
  simp (maxSteps := 1000000) (disch := first | omega | (simp only [lens, List.length_map]; omega)) only [go_sem, ↓reduceIte, Nat.reduceSub, Nat.reduceAdd, Nat.reduceMul, Nat.reduceLeDiff, Nat.reduceLT, Nat.reduceEqDiff, Nat.reduceBEq, Int.reduceLE, Int.reduceLT, Int.reduceEq, Int.reduceNeg, Int.reduceAdd, Int.reduceSub, Int.reduceMul, Int.reduceToNat, i_entry_Read_v1, hl, hk, h0, h1, h2, h3, h4, h5, h6, h7, h8, h9, h10, h11, h12, h13, h14, h15]
theorem Rsrow_true_gt_false_n_3 (b : List UInt8) (hl : ¬ 1048576 < b.length) (x1 x2 x3 x4 x5 x6 x7 : Int) (q1 q2 q3 q4 q5 q6 : Rq) (r7 : Rd) (kd : Int) (r8 : Rd) (x9 : List Ent) (q9 : Rq) (x10 : List Int) (q10 : Rq) (x11 : Int) (r11 : Rd) (x12 : List UInt8) (r12 : Rd) (x13 : List UInt8) (r13 : Rd) (t : T) (c : Int) (hk : 1 < kd)
    (h0 : Ev tab G0 n_coder_NewReader_v1 [.row 0 b.length] [rowB1 b] = some ([.ptr 1 0], [rowB1 b, rO ⟨b, false⟩]))
    (h1 : Ev tab G0 n_entry_reader_count [.ptr 0 0] [oQ 1 false, rO ⟨b, false⟩] = some ([i64 x1], inQ q1))
    (h2 : Ev tab G0 n_entry_reader_count [.ptr 0 0] (inQ q1) = some ([i64 x2], inQ q2))
    (h3 : Ev tab G0 n_entry_reader_count [.ptr 0 0] (inQ q2) = some ([i64 x3], inQ q3))
    (h4 : Ev tab G0 n_entry_reader_count [.ptr 0 0] (inQ q3) = some ([i64 x4], inQ q4))
    (h5 : Ev tab G0 n_entry_reader_count [.ptr 0 0] (inQ q4) = some ([i64 x5], inQ q5))
    (h6 : Ev tab G0 n_entry_reader_count [.ptr 0 0] (inQ q5) = some ([i64 x6], inQ q6))
    (h7 : Ev tab G0 n_entry_reader_count [.ptr 0 0] (inQ q6) = some ([i64 x7], inQ ⟨r7, true⟩))
    (h8 : Ev tab G0 n_coder_Reader_Byte [.ptr 0 0] [rO r7] = some ([u8 kd], [rO r8]))
    (h9 : Ev tab G0 n_entry_reader_entries [.ptr 0 0] (inQ ⟨r8, true⟩) = some ([.sl true (eE x9)], inQ q9))
    (h10 : Ev tab G0 n_entry_reader_members [.ptr 0 0] (inQ q9) = some ([.sl true (eI .i64 x10)], inQ q10))
    (h11 : Ev tab G0 n_entry_reader_count [.ptr 0 0] (inQ q10) = some ([i64 x11], inQ ⟨r11, false⟩))
    (h12 : Ev tab G0 n_coder_Reader_Bytes [.ptr 0 0, i64 32] [rO r11] = some ([.sl true (eB x12)], [rO r12]))
    (h13 : Ev tab G0 n_coder_Reader_Bytes [.ptr 0 0, i64 1048576] [rO r12] = some ([.sl true (eB x13)], [rO r13]))
    (h14 : Ev tab G0 n_code_Read [.sl true (eB x13)] [] = some ([.agg [i64 t.kind, .sl true (eB t.key), .sl true (eB t.value), .sl true (eB t.digest), .sl true (eT t.kids)], errA c], []))
    (h15 : Ev tab G0 n_entry_reader_end [.ptr 0 0] (inQ ⟨r13, true⟩) = some ([errA 3], inQ ⟨r13, true⟩)) :
    Ev tab G0 n_entry_Read_v1 [.row 0 b.length] [rowB1 b] = some ([avMsg MG.no, errA 3], [rowB1 b]) := by
  rw [avMsg_no]
  refine Ev_run t_entry_Read_v1 rfl rfl ?_
  simp (maxSteps := 1000000) (disch := first | omega | (simp only [lens, List.length_map]; omega)) only [go_sem, ↓reduceIte, Nat.reduceSub, Nat.reduceAdd, Nat.reduceMul, Nat.reduceLeDiff, Nat.reduceLT, Nat.reduceEqDiff, Nat.reduceBEq, Int.reduceLE, Int.reduceLT, Int.reduceEq, Int.reduceNeg, Int.reduceAdd, Int.reduceSub, Int.reduceMul, Int.reduceToNat, i_entry_Read_v1, hl, hk, h0, h1, h2, h3, h4, h5, h6, h7, h8, h9, h10, h11, h12, h13, h14, h15]
theorem Rsrow_true_gt_true_0_3 (b : List UInt8) (hl : ¬ 1048576 < b.length) (x1 x2 x3 x4 x5 x6 x7 : Int) (q1 q2 q3 q4 q5 q6 : Rq) (r7 : Rd) (kd : Int) (r8 : Rd) (x9 : List Ent) (q9 : Rq) (x10 : List Int) (q10 : Rq) (x11 : Int) (r11 : Rd) (x12 : List UInt8) (r12 : Rd) (x13 : List UInt8) (r13 : Rd) (t : T) (hk : 1 < kd)
    (h0 : Ev tab G0 n_coder_NewReader_v1 [.row 0 b.length] [rowB1 b] = some ([.ptr 1 0], [rowB1 b, rO ⟨b, false⟩]))
    (h1 : Ev tab G0 n_entry_reader_count [.ptr 0 0] [oQ 1 false, rO ⟨b, false⟩] = some ([i64 x1], inQ q1))
    (h2 : Ev tab G0 n_entry_reader_count [.ptr 0 0] (inQ q1) = some ([i64 x2], inQ q2))
    (h3 : Ev tab G0 n_entry_reader_count [.ptr 0 0] (inQ q2) = some ([i64 x3], inQ q3))
    (h4 : Ev tab G0 n_entry_reader_count [.ptr 0 0] (inQ q3) = some ([i64 x4], inQ q4))
    (h5 : Ev tab G0 n_entry_reader_count [.ptr 0 0] (inQ q4) = some ([i64 x5], inQ q5))
    (h6 : Ev tab G0 n_entry_reader_count [.ptr 0 0] (inQ q5) = some ([i64 x6], inQ q6))
    (h7 : Ev tab G0 n_entry_reader_count [.ptr 0 0] (inQ q6) = some ([i64 x7], inQ ⟨r7, true⟩))
    (h8 : Ev tab G0 n_coder_Reader_Byte [.ptr 0 0] [rO r7] = some ([u8 kd], [rO r8]))
    (h9 : Ev tab G0 n_entry_reader_entries [.ptr 0 0] (inQ ⟨r8, true⟩) = some ([.sl true (eE x9)], inQ q9))
    (h10 : Ev tab G0 n_entry_reader_members [.ptr 0 0] (inQ q9) = some ([.sl true (eI .i64 x10)], inQ q10))
    (h11 : Ev tab G0 n_entry_reader_count [.ptr 0 0] (inQ q10) = some ([i64 x11], inQ ⟨r11, true⟩))
    (h12 : Ev tab G0 n_coder_Reader_Bytes [.ptr 0 0, i64 32] [rO r11] = some ([.sl true (eB x12)], [rO r12]))
    (h13 : Ev tab G0 n_coder_Reader_Bytes [.ptr 0 0, i64 1048576] [rO r12] = some ([.sl true (eB x13)], [rO r13]))
    (h14 : Ev tab G0 n_code_Read [.sl true (eB x13)] [] = some ([.agg [i64 t.kind, .sl true (eB t.key), .sl true (eB t.value), .sl true (eB t.digest), .sl true (eT t.kids)], .s .nilIface], []))
    (h15 : Ev tab G0 n_entry_reader_end [.ptr 0 0] (inQ ⟨r13, true⟩) = some ([errA 3], inQ ⟨r13, true⟩)) :
    Ev tab G0 n_entry_Read_v1 [.row 0 b.length] [rowB1 b] = some ([avMsg MG.no, errA 3], [rowB1 b]) := by
  rw [avMsg_no]
  refine Ev_run t_entry_Read_v1 rfl rfl ?_
  simp (maxSteps := 1000000) (disch := first | omega | (simp only [lens, List.length_map]; omega)) only [go_sem, ↓reduceIte, Nat.reduceSub, Nat.reduceAdd, Nat.reduceMul, Nat.reduceLeDiff, Nat.reduceLT, Nat.reduceEqDiff, Nat.reduceBEq, Int.reduceLE, Int.reduceLT, Int.reduceEq, Int.reduceNeg, Int.reduceAdd, Int.reduceSub, Int.reduceMul, Int.reduceToNat, i_entry_Read_v1, hl, hk, h0, h1, h2, h3, h4, h5, h6, h7, h8, h9, h10, h11, h12, h13, h14, h15]
theorem Rsrow_true_gt_true_n_3 (b : List UInt8) (hl : ¬ 1048576 < b.length) (x1 x2 x3 x4 x5 x6 x7 : Int) (q1 q2 q3 q4 q5 q6 : Rq) (r7 : Rd) (kd : Int) (r8 : Rd) (x9 : List Ent) (q9 : Rq) (x10 : List Int) (q10 : Rq) (x11 : Int) (r11 : Rd) (x12 : List UInt8) (r12 : Rd) (x13 : List UInt8) (r13 : Rd) (t : T) (c : Int) (hk : 1 < kd)
    (h0 : Ev tab G0 n_coder_NewReader_v1 [.row 0 b.length] [rowB1 b] = some ([.ptr 1 0], [rowB1 b, rO ⟨b, false⟩]))
    (h1 : Ev tab G0 n_entry_reader_count [.ptr 0 0] [oQ 1 false, rO ⟨b, false⟩] = some ([i64 x1], inQ q1))
    (h2 : Ev tab G0 n_entry_reader_count [.ptr 0 0] (inQ q1) = some ([i64 x2], inQ q2))
    (h3 : Ev tab G0 n_entry_reader_count [.ptr 0 0] (inQ q2) = some ([i64 x3], inQ q3))
    (h4 : Ev tab G0 n_entry_reader_count [.ptr 0 0] (inQ q3) = some ([i64 x4], inQ q4))
    (h5 : Ev tab G0 n_entry_reader_count [.ptr 0 0] (inQ q4) = some ([i64 x5], inQ q5))
    (h6 : Ev tab G0 n_entry_reader_count [.ptr 0 0] (inQ q5) = some ([i64 x6], inQ q6))
    (h7 : Ev tab G0 n_entry_reader_count [.ptr 0 0] (inQ q6) = some ([i64 x7], inQ ⟨r7, true⟩))
    (h8 : Ev tab G0 n_coder_Reader_Byte [.ptr 0 0] [rO r7] = some ([u8 kd], [rO r8]))
    (h9 : Ev tab G0 n_entry_reader_entries [.ptr 0 0] (inQ ⟨r8, true⟩) = some ([.sl true (eE x9)], inQ q9))
    (h10 : Ev tab G0 n_entry_reader_members [.ptr 0 0] (inQ q9) = some ([.sl true (eI .i64 x10)], inQ q10))
    (h11 : Ev tab G0 n_entry_reader_count [.ptr 0 0] (inQ q10) = some ([i64 x11], inQ ⟨r11, true⟩))
    (h12 : Ev tab G0 n_coder_Reader_Bytes [.ptr 0 0, i64 32] [rO r11] = some ([.sl true (eB x12)], [rO r12]))
    (h13 : Ev tab G0 n_coder_Reader_Bytes [.ptr 0 0, i64 1048576] [rO r12] = some ([.sl true (eB x13)], [rO r13]))
    (h14 : Ev tab G0 n_code_Read [.sl true (eB x13)] [] = some ([.agg [i64 t.kind, .sl true (eB t.key), .sl true (eB t.value), .sl true (eB t.digest), .sl true (eT t.kids)], errA c], []))
    (h15 : Ev tab G0 n_entry_reader_end [.ptr 0 0] (inQ ⟨r13, true⟩) = some ([errA 3], inQ ⟨r13, true⟩)) :
    Ev tab G0 n_entry_Read_v1 [.row 0 b.length] [rowB1 b] = some ([avMsg MG.no, errA 3], [rowB1 b]) := by
  rw [avMsg_no]
  refine Ev_run t_entry_Read_v1 rfl rfl ?_
  simp (maxSteps := 1000000) (disch := first | omega | (simp only [lens, List.length_map]; omega)) only [go_sem, ↓reduceIte, Nat.reduceSub, Nat.reduceAdd, Nat.reduceMul, Nat.reduceLeDiff, Nat.reduceLT, Nat.reduceEqDiff, Nat.reduceBEq, Int.reduceLE, Int.reduceLT, Int.reduceEq, Int.reduceNeg, Int.reduceAdd, Int.reduceSub, Int.reduceMul, Int.reduceToNat, i_entry_Read_v1, hl, hk, h0, h1, h2, h3, h4, h5, h6, h7, h8, h9, h10, h11, h12, h13, h14, h15]
theorem Read_chain_row (b : List UInt8) (hl : ¬ 1048576 < b.length) (p1 p2 p3 p4 p5 p6 p7 p8 : Int × Rq) (p9 : List Ent × Rq) (p10 : List Int × Rq) (p11 : Int × Rq) (p12 : List UInt8 × Rq) (p13 : T × Rq)
    (e1 : p1 = (q0 b).cnt) (e2 : p2 = p1.2.cnt) (e3 : p3 = p2.2.cnt) (e4 : p4 = p3.2.cnt) (e5 : p5 = p4.2.cnt) (e6 : p6 = p5.2.cnt) (e7 : p7 = p6.2.cnt) (e8 : p8 = p7.2.byt) (e9 : p9 = p8.2.ents) (e10 : p10 = p9.2.mems) (e11 : p11 = p10.2.cnt) (e12 : p12 = p11.2.bys 32) (e13 : p13 = p12.2.tre) :
    Ev tab G0 n_entry_Read_v1 [.row 0 b.length] [rowB1 b] = some ([avMsg (if p13.2.fn = 0 then ⟨p1.1, p2.1, p3.1, p4.1, p5.1, p6.1, p7.1, decide (p8.1 = 1), p9.1, p10.1, p11.1, p12.1, p13.1⟩ else MG.no), errV p13.2.fn], [rowB1 b]) := by
  have h0 := NewReader_row b (by omega)
  have h1 : Ev tab G0 n_entry_reader_count [.ptr 0 0] [oQ 1 false, rO ⟨b, false⟩] = some ([i64 p1.1], inQ p1.2) := by rw [e1]; exact qcount_ev (q0 b) (by simp only [q0]; omega)
  have l1 : p1.2.r.b.length ≤ b.length := by rw [e1]; exact (q0 b).cnt_le.1
  have h2 : Ev tab G0 n_entry_reader_count [.ptr 0 0] (inQ p1.2) = some ([i64 p2.1], inQ p2.2) := by rw [e2]; exact qcount_ev p1.2 (by omega)
  have l2 : p2.2.r.b.length ≤ p1.2.r.b.length := by rw [e2]; exact p1.2.cnt_le.1
  have h3 : Ev tab G0 n_entry_reader_count [.ptr 0 0] (inQ p2.2) = some ([i64 p3.1], inQ p3.2) := by rw [e3]; exact qcount_ev p2.2 (by omega)
  have l3 : p3.2.r.b.length ≤ p2.2.r.b.length := by rw [e3]; exact p2.2.cnt_le.1
  have h4 : Ev tab G0 n_entry_reader_count [.ptr 0 0] (inQ p3.2) = some ([i64 p4.1], inQ p4.2) := by rw [e4]; exact qcount_ev p3.2 (by omega)
  have l4 : p4.2.r.b.length ≤ p3.2.r.b.length := by rw [e4]; exact p3.2.cnt_le.1
  have h5 : Ev tab G0 n_entry_reader_count [.ptr 0 0] (inQ p4.2) = some ([i64 p5.1], inQ p5.2) := by rw [e5]; exact qcount_ev p4.2 (by omega)
  have l5 : p5.2.r.b.length ≤ p4.2.r.b.length := by rw [e5]; exact p4.2.cnt_le.1
  have h6 : Ev tab G0 n_entry_reader_count [.ptr 0 0] (inQ p5.2) = some ([i64 p6.1], inQ p6.2) := by rw [e6]; exact qcount_ev p5.2 (by omega)
  have l6 : p6.2.r.b.length ≤ p5.2.r.b.length := by rw [e6]; exact p5.2.cnt_le.1
  have h7 : Ev tab G0 n_entry_reader_count [.ptr 0 0] (inQ p6.2) = some ([i64 p7.1], inQ p7.2) := by rw [e7]; exact qcount_ev p6.2 (by omega)
  have l7 : p7.2.r.b.length ≤ p6.2.r.b.length := by rw [e7]; exact p6.2.cnt_le.1
  have h8 := coder_Byte_k p7.2.r (by omega)
  have l8 : p8.2.r.b.length ≤ p7.2.r.b.length := by rw [e8]; exact p7.2.r.byte_le
  have h9 : Ev tab G0 n_entry_reader_entries [.ptr 0 0] (inQ p8.2) = some ([.sl true (eE p9.1)], inQ p9.2) := by rw [e9]; exact qents_ev p8.2 (by omega)
  have l9 : p9.2.r.b.length ≤ p8.2.r.b.length := by rw [e9]; exact p8.2.ents_le.1
  have m9 : p8.2.bad = true → p9.2.bad = true := fun h => by rw [e9]; exact ents_b h
  have h10 : Ev tab G0 n_entry_reader_members [.ptr 0 0] (inQ p9.2) = some ([.sl true (eI .i64 p10.1)], inQ p10.2) := by rw [e10]; exact qmems_ev p9.2 (by omega)
  have l10 : p10.2.r.b.length ≤ p9.2.r.b.length := by rw [e10]; exact p9.2.mems_le.1
  have m10 : p9.2.bad = true → p10.2.bad = true := fun h => by rw [e10]; exact mems_b h
  have h11 : Ev tab G0 n_entry_reader_count [.ptr 0 0] (inQ p10.2) = some ([i64 p11.1], inQ p11.2) := by rw [e11]; exact qcount_ev p10.2 (by omega)
  have l11 : p11.2.r.b.length ≤ p10.2.r.b.length := by rw [e11]; exact p10.2.cnt_le.1
  have m11 : p10.2.bad = true → p11.2.bad = true := fun h => by rw [e11]; exact cnt_b h
  have h12 : Ev tab G0 n_coder_Reader_Bytes [.ptr 0 0, i64 32] [rO p11.2.r] = some ([.sl true (eB p12.1)], [rO p12.2.r]) := by rw [e12]; exact coder_ReaderBytes_ev p11.2.r 32 (by omega) (by omega)
  have b12 : p12.2.bad = p11.2.bad := by rw [e12]; rfl
  have l12 : p12.2.r.b.length ≤ p11.2.r.b.length := by rw [e12]; exact p11.2.r.bytes_le 32
  have h13 := coder_ReaderBytes_ev p12.2.r 1048576 (by omega) (by omega)
  have l13 := bytes_take p12.2.r 1048576
  have h14 := code_Read_ev (p12.2.r.bytes 1048576).1 (by omega)
  have l14 : p13.2.r.b.length ≤ p12.2.r.b.length := by rw [e13]; exact p12.2.r.bytes_le 1048576
  have h15 : Ev tab G0 n_entry_reader_end [.ptr 0 0] (inQ p13.2) = some ([errV p13.2.fn], inQ p13.2) := qend_ev p13.2 (by omega)
  have hf := p13.2.fn_c
  have m13 : ¬ p13.2.fn = 3 → p13.2.bad = false := fn_b
  have m8 : p11.2.bad = false → p8.2.bad = false := fun h => good_b m9 (good_b m10 (good_b m11 h))
  generalize hff : p13.2.fn = f at *
  clear hff
  clear e1 e2 e3 e4 e5 e6 e7 e9 e10 e11 e12 l1 l2 l3 l4 l5 l6 l7 l8 l9 l10 l11 l12 l13 l14 m9 m10 m11
  have e8a : p8.1 = p7.2.r.kd := by rw [e8]; rfl
  have e8b : p8.2 = ⟨p7.2.r.byte.2, p7.2.bad || decide (1 < p7.2.r.kd)⟩ := by rw [e8]; rfl
  have e13a : p13.1 = rdV (p12.2.r.bytes 1048576).1 := by rw [e13]; rfl
  have e13b : p13.2 = ⟨(p12.2.r.bytes 1048576).2, p12.2.bad || decide (¬ rdC (p12.2.r.bytes 1048576).1 = 0)⟩ := by rw [e13]; rfl
  clear e8 e13
  rw [e8b] at h9 m8
  rw [e13b] at h15 m13
  rw [e13a]
  clear e8b e13a e13b
  generalize p8.1 = x8 at *
  subst e8a
  generalize p7.2.r.kd = kd at *
  generalize p7.2.r.byte.2 = r8 at *
  generalize p12.2.r.bytes 1048576 = z at *
  generalize z.1 = x13 at *
  generalize z.2 = r13 at *
  generalize rdV x13 = t at *
  generalize rdC x13 = c at *
  obtain ⟨x1, q1⟩ := p1
  obtain ⟨x2, q2⟩ := p2
  obtain ⟨x3, q3⟩ := p3
  obtain ⟨x4, q4⟩ := p4
  obtain ⟨x5, q5⟩ := p5
  obtain ⟨x6, q6⟩ := p6
  obtain ⟨x7, ⟨r7, d7⟩⟩ := p7
  obtain ⟨x9, q9⟩ := p9
  obtain ⟨x10, q10⟩ := p10
  obtain ⟨x11, ⟨r11, d11⟩⟩ := p11
  obtain ⟨x12, ⟨r12, d12⟩⟩ := p12
  simp only at *
  subst b12
  rw [avT] at h14
  rcases hf with rfl | rfl | rfl
  · have a := m13 (by decide)
    rw [Bool.or_eq_false_iff, decide_eq_false_iff_not, Decidable.not_not] at a
    obtain ⟨rfl, rfl⟩ := a
    have a := m8 rfl
    rw [Bool.or_eq_false_iff, decide_eq_false_iff_not] at a
    obtain ⟨rfl, hk⟩ := a
    rw [if_pos rfl, errV, if_pos rfl] at *
    rw [decide_eq_false hk] at h9
    exact Rsrow_false_lt_false_0_0 b hl _ _ _ _ _ _ _ _ _ _ _ _ _ _ _ _ _ _ _ _ _ _ _ _ _ _ _ hk h0 h1 h2 h3 h4 h5 h6 h7 h8 h9 h10 h11 h12 h13 h14 h15
  · clear m13 m8
    rw [if_neg (by decide)]
    rw [errV, if_neg (by decide)] at h15 ⊢
    by_cases hc : c = 0
    · subst hc
      rw [errV, if_pos rfl] at h14
      rw [decide_eq_false (by decide), Bool.or_false] at h15
      cases d7 <;> cases d12 <;> by_cases hk : 1 < kd
      · rw [decide_eq_true hk, Bool.false_or] at h9
        exact Rsrow_false_gt_false_0_3 b hl _ _ _ _ _ _ _ _ _ _ _ _ _ _ _ _ _ _ _ _ _ _ _ _ _ _ _ hk h0 h1 h2 h3 h4 h5 h6 h7 h8 h9 h10 h11 h12 h13 h14 h15
      · rw [decide_eq_false hk, Bool.false_or] at h9
        exact Rsrow_false_lt_false_0_3 b hl _ _ _ _ _ _ _ _ _ _ _ _ _ _ _ _ _ _ _ _ _ _ _ _ _ _ _ hk h0 h1 h2 h3 h4 h5 h6 h7 h8 h9 h10 h11 h12 h13 h14 h15
      · rw [decide_eq_true hk, Bool.false_or] at h9
        exact Rsrow_false_gt_true_0_3 b hl _ _ _ _ _ _ _ _ _ _ _ _ _ _ _ _ _ _ _ _ _ _ _ _ _ _ _ hk h0 h1 h2 h3 h4 h5 h6 h7 h8 h9 h10 h11 h12 h13 h14 h15
      · rw [decide_eq_false hk, Bool.false_or] at h9
        exact Rsrow_false_lt_true_0_3 b hl _ _ _ _ _ _ _ _ _ _ _ _ _ _ _ _ _ _ _ _ _ _ _ _ _ _ _ hk h0 h1 h2 h3 h4 h5 h6 h7 h8 h9 h10 h11 h12 h13 h14 h15
      · rw [Bool.true_or] at h9
        exact Rsrow_true_gt_false_0_3 b hl _ _ _ _ _ _ _ _ _ _ _ _ _ _ _ _ _ _ _ _ _ _ _ _ _ _ _ hk h0 h1 h2 h3 h4 h5 h6 h7 h8 h9 h10 h11 h12 h13 h14 h15
      · rw [Bool.true_or] at h9
        exact Rsrow_true_lt_false_0_3 b hl _ _ _ _ _ _ _ _ _ _ _ _ _ _ _ _ _ _ _ _ _ _ _ _ _ _ _ hk h0 h1 h2 h3 h4 h5 h6 h7 h8 h9 h10 h11 h12 h13 h14 h15
      · rw [Bool.true_or] at h9
        exact Rsrow_true_gt_true_0_3 b hl _ _ _ _ _ _ _ _ _ _ _ _ _ _ _ _ _ _ _ _ _ _ _ _ _ _ _ hk h0 h1 h2 h3 h4 h5 h6 h7 h8 h9 h10 h11 h12 h13 h14 h15
      · rw [Bool.true_or] at h9
        exact Rsrow_true_lt_true_0_3 b hl _ _ _ _ _ _ _ _ _ _ _ _ _ _ _ _ _ _ _ _ _ _ _ _ _ _ _ hk h0 h1 h2 h3 h4 h5 h6 h7 h8 h9 h10 h11 h12 h13 h14 h15
    · rw [errV, if_neg hc] at h14
      rw [decide_eq_true hc] at h15
      cases d7 <;> cases d12 <;> by_cases hk : 1 < kd
      · rw [decide_eq_true hk, Bool.false_or] at h9
        rw [Bool.false_or] at h15
        exact Rsrow_false_gt_false_n_3 b hl _ _ _ _ _ _ _ _ _ _ _ _ _ _ _ _ _ _ _ _ _ _ _ _ _ _ _ _ hk h0 h1 h2 h3 h4 h5 h6 h7 h8 h9 h10 h11 h12 h13 h14 h15
      · rw [decide_eq_false hk, Bool.false_or] at h9
        rw [Bool.false_or] at h15
        exact Rsrow_false_lt_false_n_3 b hl _ _ _ _ _ _ _ _ _ _ _ _ _ _ _ _ _ _ _ _ _ _ _ _ _ _ _ _ hk h0 h1 h2 h3 h4 h5 h6 h7 h8 h9 h10 h11 h12 h13 h14 h15
      · rw [decide_eq_true hk, Bool.false_or] at h9
        rw [Bool.true_or] at h15
        exact Rsrow_false_gt_true_n_3 b hl _ _ _ _ _ _ _ _ _ _ _ _ _ _ _ _ _ _ _ _ _ _ _ _ _ _ _ _ hk h0 h1 h2 h3 h4 h5 h6 h7 h8 h9 h10 h11 h12 h13 h14 h15
      · rw [decide_eq_false hk, Bool.false_or] at h9
        rw [Bool.true_or] at h15
        exact Rsrow_false_lt_true_n_3 b hl _ _ _ _ _ _ _ _ _ _ _ _ _ _ _ _ _ _ _ _ _ _ _ _ _ _ _ _ hk h0 h1 h2 h3 h4 h5 h6 h7 h8 h9 h10 h11 h12 h13 h14 h15
      · rw [Bool.true_or] at h9
        rw [Bool.false_or] at h15
        exact Rsrow_true_gt_false_n_3 b hl _ _ _ _ _ _ _ _ _ _ _ _ _ _ _ _ _ _ _ _ _ _ _ _ _ _ _ _ hk h0 h1 h2 h3 h4 h5 h6 h7 h8 h9 h10 h11 h12 h13 h14 h15
      · rw [Bool.true_or] at h9
        rw [Bool.false_or] at h15
        exact Rsrow_true_lt_false_n_3 b hl _ _ _ _ _ _ _ _ _ _ _ _ _ _ _ _ _ _ _ _ _ _ _ _ _ _ _ _ hk h0 h1 h2 h3 h4 h5 h6 h7 h8 h9 h10 h11 h12 h13 h14 h15
      · rw [Bool.true_or] at h9
        rw [Bool.true_or] at h15
        exact Rsrow_true_gt_true_n_3 b hl _ _ _ _ _ _ _ _ _ _ _ _ _ _ _ _ _ _ _ _ _ _ _ _ _ _ _ _ hk h0 h1 h2 h3 h4 h5 h6 h7 h8 h9 h10 h11 h12 h13 h14 h15
      · rw [Bool.true_or] at h9
        rw [Bool.true_or] at h15
        exact Rsrow_true_lt_true_n_3 b hl _ _ _ _ _ _ _ _ _ _ _ _ _ _ _ _ _ _ _ _ _ _ _ _ _ _ _ _ hk h0 h1 h2 h3 h4 h5 h6 h7 h8 h9 h10 h11 h12 h13 h14 h15
  · have a := m13 (by decide)
    rw [Bool.or_eq_false_iff, decide_eq_false_iff_not, Decidable.not_not] at a
    obtain ⟨rfl, rfl⟩ := a
    have a := m8 rfl
    rw [Bool.or_eq_false_iff, decide_eq_false_iff_not] at a
    obtain ⟨rfl, hk⟩ := a
    rw [if_neg (by decide)]
    rw [errV, if_neg (by decide)] at h15 ⊢
    rw [errV, if_pos rfl] at h14
    rw [decide_eq_false hk] at h9
    exact Rsrow_false_lt_false_0_4 b hl _ _ _ _ _ _ _ _ _ _ _ _ _ _ _ _ _ _ _ _ _ _ _ _ _ _ _ hk h0 h1 h2 h3 h4 h5 h6 h7 h8 h9 h10 h11 h12 h13 h14 h15
theorem Read_row (b : List UInt8) (hl : ¬ 1048576 < b.length) : Ev tab G0 n_entry_Read_v1 [.row 0 b.length] [rowB1 b] = some ([avMsg (msV b), errV (msC b)], [rowB1 b]) := by
  have e1 : msC b = (G13 b).2.fn := if_neg hl
  rw [msV, e1]
  exact Read_chain_row b hl (G1 b) (G2 b) (G3 b) (G4 b) (G5 b) (G6 b) (G7 b) (G8 b) (G9 b) (G10 b) (G11 b) (G12 b) (G13 b) rfl rfl rfl rfl rfl rfl rfl rfl rfl rfl rfl rfl rfl

end Go.Proofs.Ytkfaahjcncpmhaa
