/-
  Messages out of bytes: the program's reader.
-/
import Derived.Test.YtkfaahjcncpmhaaLRdr6
import Derived.Test.YtkfaahjcncpmhaaLMsg
import Derived.Test.YtkfaahjcncpmhaaLCodeR4
set_option linter.unusedSimpArgs false
set_option linter.unusedVariables false
set_option maxRecDepth 200000
set_option maxHeartbeats 4000000
namespace Go.Proofs.Ytkfaahjcncpmhaa
open Go.Ev

def Rq.byt (q : Rq) : Int × Rq := (q.r.kd, ⟨q.r.byte.2, q.bad || decide (1 < q.r.kd)⟩)
def Rq.bys (q : Rq) (m : Int) : List UInt8 × Rq := ((q.r.bytes m).1, ⟨(q.r.bytes m).2, q.bad⟩)
def Rq.tre (q : Rq) : T × Rq := (rdV (q.r.bytes 1048576).1, ⟨(q.r.bytes 1048576).2, q.bad || decide (¬ rdC (q.r.bytes 1048576).1 = 0)⟩)
def MG.no : MG := ⟨0, 0, 0, 0, 0, 0, 0, false, [], [], 0, [], T.no⟩
theorem avMsg_no : avMsg MG.no = .agg [i64 0, i64 0, i64 0, i64 0, i64 0, i64 0, i64 0, bo false, .sl true [], .sl true [], i64 0, .sl true [], i64 0, .sl true [], .sl true [], .sl true [], .sl true []] := rfl
theorem avMsg_mk (a b c d e f g : Int) (h : Bool) (i : List Ent) (j : List Int) (k : Int) (l : List UInt8) (t : T) : avMsg ⟨a, b, c, d, e, f, g, h, i, j, k, l, t⟩ = .agg [i64 a, i64 b, i64 c, i64 d, i64 e, i64 f, i64 g, bo h, .sl true (eE i), .sl true (eI .i64 j), i64 k, .sl true (eB l), i64 t.kind, .sl true (eB t.key), .sl true (eB t.value), .sl true (eB t.digest), .sl true (eT t.kids)] := rfl
theorem Read_evL (b : List UInt8) (hl : 1048576 < b.length) (hb : b.length ≤ 1048577) : Ev tab G0 n_entry_Read [.sl true (eB b)] [] = some ([avMsg MG.no, errV 2], []) := by
  rw [avMsg_no, errV, if_neg (by decide)]
  refine Ev_run t_entry_Read rfl rfl ?_
  simp (maxSteps := 1000000) (disch := first | omega | (simp only [lens, List.length_map]; omega)) only [go_sem, ↓reduceIte, Nat.reduceSub, Nat.reduceAdd, Nat.reduceMul, Nat.reduceLeDiff, Nat.reduceLT, Nat.reduceEqDiff, Nat.reduceBEq, Int.reduceLE, Int.reduceLT, Int.reduceEq, Int.reduceNeg, Int.reduceAdd, Int.reduceSub, Int.reduceMul, Int.reduceToNat, i_entry_Read, hl]
theorem rd_bad (t : T) : True := trivial
theorem Rc_false_lt_false_0_0 (b : List UInt8) (hl : ¬ 1048576 < b.length) (x1 x2 x3 x4 x5 x6 x7 : Int) (q1 q2 q3 q4 q5 q6 : Rq) (r7 : Rd) (kd : Int) (r8 : Rd) (x9 : List Ent) (q9 : Rq) (x10 : List Int) (q10 : Rq) (x11 : Int) (r11 : Rd) (x12 : List UInt8) (r12 : Rd) (x13 : List UInt8) (r13 : Rd) (t : T) (hk : ¬ 1 < kd)
    (h0 : Ev tab G0 n_coder_NewReader [.sl true (eB b)] [] = some ([.ptr 0 0], [rO ⟨b, false⟩]))
    (h1 : Ev tab G0 n_entry_reader_count [.ptr 0 0] [oQ 1 false, rO ⟨b, false⟩] = some ([i64 x1], inQ q1))
    (h2 : Ev tab G0 n_entry_reader_count [.ptr 0 0] (inQ q1) = some ([i64 x2], inQ q2))
    (h3 : Ev tab G0 n_entry_reader_count [.ptr 0 0] (inQ q2) = some ([i64 x3], inQ q3))
    (h4 : Ev tab G0 n_entry_reader_count [.ptr 0 0] (inQ q3) = some ([i64 x4], inQ q4))
    (h5 : Ev tab G0 n_entry_reader_count [.ptr 0 0] (inQ q4) = some ([i64 x5], inQ q5))
    (h6 : Ev tab G0 n_entry_reader_count [.ptr 0 0] (inQ q5) = some ([i64 x6], inQ q6))
    (h7 : Ev tab G0 n_entry_reader_count [.ptr 0 0] (inQ q6) = some ([i64 x7], inQ ⟨r7, false⟩))
    (h8 : Ev tab G0 n_coder_Reader_Byte [.ptr 0 0] [rO r7] = some ([u8 kd], [rO r8]))
    (h9 : Ev tab G0 n_entry_reader_entries [.ptr 0 0] (inQ ⟨r8, false⟩) = some ([.sl true (eE x9)], inQ q9))
    (h10 : Ev tab G0 n_entry_reader_members [.ptr 0 0] (inQ q9) = some ([.sl true (eI .i64 x10)], inQ q10))
    (h11 : Ev tab G0 n_entry_reader_count [.ptr 0 0] (inQ q10) = some ([i64 x11], inQ ⟨r11, false⟩))
    (h12 : Ev tab G0 n_coder_Reader_Bytes [.ptr 0 0, i64 32] [rO r11] = some ([.sl true (eB x12)], [rO r12]))
    (h13 : Ev tab G0 n_coder_Reader_Bytes [.ptr 0 0, i64 1048576] [rO r12] = some ([.sl true (eB x13)], [rO r13]))
    (h14 : Ev tab G0 n_code_Read [.sl true (eB x13)] [] = some ([.agg [i64 t.kind, .sl true (eB t.key), .sl true (eB t.value), .sl true (eB t.digest), .sl true (eT t.kids)], .s .nilIface], []))
    (h15 : Ev tab G0 n_entry_reader_end [.ptr 0 0] (inQ ⟨r13, false⟩) = some ([.s .nilIface], inQ ⟨r13, false⟩)) :
    Ev tab G0 n_entry_Read [.sl true (eB b)] [] = some ([avMsg ⟨x1, x2, x3, x4, x5, x6, x7, decide (kd = 1), x9, x10, x11, x12, t⟩, .s .nilIface], []) := by
  rw [avMsg_mk]
  refine Ev_run t_entry_Read rfl rfl ?_
  simp (maxSteps := 1000000) (disch := first | omega | (simp only [lens, List.length_map]; omega)) only [go_sem, ↓reduceIte, Nat.reduceSub, Nat.reduceAdd, Nat.reduceMul, Nat.reduceLeDiff, Nat.reduceLT, Nat.reduceEqDiff, Nat.reduceBEq, Int.reduceLE, Int.reduceLT, Int.reduceEq, Int.reduceNeg, Int.reduceAdd, Int.reduceSub, Int.reduceMul, Int.reduceToNat, i_entry_Read, hl, hk, h0, h1, h2, h3, h4, h5, h6, h7, h8, h9, h10, h11, h12, h13, h14, h15]
theorem Rc_false_lt_false_0_3 (b : List UInt8) (hl : ¬ 1048576 < b.length) (x1 x2 x3 x4 x5 x6 x7 : Int) (q1 q2 q3 q4 q5 q6 : Rq) (r7 : Rd) (kd : Int) (r8 : Rd) (x9 : List Ent) (q9 : Rq) (x10 : List Int) (q10 : Rq) (x11 : Int) (r11 : Rd) (x12 : List UInt8) (r12 : Rd) (x13 : List UInt8) (r13 : Rd) (t : T) (hk : ¬ 1 < kd)
    (h0 : Ev tab G0 n_coder_NewReader [.sl true (eB b)] [] = some ([.ptr 0 0], [rO ⟨b, false⟩]))
    (h1 : Ev tab G0 n_entry_reader_count [.ptr 0 0] [oQ 1 false, rO ⟨b, false⟩] = some ([i64 x1], inQ q1))
    (h2 : Ev tab G0 n_entry_reader_count [.ptr 0 0] (inQ q1) = some ([i64 x2], inQ q2))
    (h3 : Ev tab G0 n_entry_reader_count [.ptr 0 0] (inQ q2) = some ([i64 x3], inQ q3))
    (h4 : Ev tab G0 n_entry_reader_count [.ptr 0 0] (inQ q3) = some ([i64 x4], inQ q4))
    (h5 : Ev tab G0 n_entry_reader_count [.ptr 0 0] (inQ q4) = some ([i64 x5], inQ q5))
    (h6 : Ev tab G0 n_entry_reader_count [.ptr 0 0] (inQ q5) = some ([i64 x6], inQ q6))
    (h7 : Ev tab G0 n_entry_reader_count [.ptr 0 0] (inQ q6) = some ([i64 x7], inQ ⟨r7, false⟩))
    (h8 : Ev tab G0 n_coder_Reader_Byte [.ptr 0 0] [rO r7] = some ([u8 kd], [rO r8]))
    (h9 : Ev tab G0 n_entry_reader_entries [.ptr 0 0] (inQ ⟨r8, false⟩) = some ([.sl true (eE x9)], inQ q9))
    (h10 : Ev tab G0 n_entry_reader_members [.ptr 0 0] (inQ q9) = some ([.sl true (eI .i64 x10)], inQ q10))
    (h11 : Ev tab G0 n_entry_reader_count [.ptr 0 0] (inQ q10) = some ([i64 x11], inQ ⟨r11, false⟩))
    (h12 : Ev tab G0 n_coder_Reader_Bytes [.ptr 0 0, i64 32] [rO r11] = some ([.sl true (eB x12)], [rO r12]))
    (h13 : Ev tab G0 n_coder_Reader_Bytes [.ptr 0 0, i64 1048576] [rO r12] = some ([.sl true (eB x13)], [rO r13]))
    (h14 : Ev tab G0 n_code_Read [.sl true (eB x13)] [] = some ([.agg [i64 t.kind, .sl true (eB t.key), .sl true (eB t.value), .sl true (eB t.digest), .sl true (eT t.kids)], .s .nilIface], []))
    (h15 : Ev tab G0 n_entry_reader_end [.ptr 0 0] (inQ ⟨r13, false⟩) = some ([errA 3], inQ ⟨r13, false⟩)) :
    Ev tab G0 n_entry_Read [.sl true (eB b)] [] = some ([avMsg MG.no, errA 3], []) := by
  rw [avMsg_no]
  refine Ev_run t_entry_Read rfl rfl ?_
  simp (maxSteps := 1000000) (disch := first | omega | (simp only [lens, List.length_map]; omega)) only [go_sem, ↓reduceIte, Nat.reduceSub, Nat.reduceAdd, Nat.reduceMul, Nat.reduceLeDiff, Nat.reduceLT, Nat.reduceEqDiff, Nat.reduceBEq, Int.reduceLE, Int.reduceLT, Int.reduceEq, Int.reduceNeg, Int.reduceAdd, Int.reduceSub, Int.reduceMul, Int.reduceToNat, i_entry_Read, hl, hk, h0, h1, h2, h3, h4, h5, h6, h7, h8, h9, h10, h11, h12, h13, h14, h15]
theorem Rc_false_lt_false_0_4 (b : List UInt8) (hl : ¬ 1048576 < b.length) (x1 x2 x3 x4 x5 x6 x7 : Int) (q1 q2 q3 q4 q5 q6 : Rq) (r7 : Rd) (kd : Int) (r8 : Rd) (x9 : List Ent) (q9 : Rq) (x10 : List Int) (q10 : Rq) (x11 : Int) (r11 : Rd) (x12 : List UInt8) (r12 : Rd) (x13 : List UInt8) (r13 : Rd) (t : T) (hk : ¬ 1 < kd)
    (h0 : Ev tab G0 n_coder_NewReader [.sl true (eB b)] [] = some ([.ptr 0 0], [rO ⟨b, false⟩]))
    (h1 : Ev tab G0 n_entry_reader_count [.ptr 0 0] [oQ 1 false, rO ⟨b, false⟩] = some ([i64 x1], inQ q1))
    (h2 : Ev tab G0 n_entry_reader_count [.ptr 0 0] (inQ q1) = some ([i64 x2], inQ q2))
    (h3 : Ev tab G0 n_entry_reader_count [.ptr 0 0] (inQ q2) = some ([i64 x3], inQ q3))
    (h4 : Ev tab G0 n_entry_reader_count [.ptr 0 0] (inQ q3) = some ([i64 x4], inQ q4))
    (h5 : Ev tab G0 n_entry_reader_count [.ptr 0 0] (inQ q4) = some ([i64 x5], inQ q5))
    (h6 : Ev tab G0 n_entry_reader_count [.ptr 0 0] (inQ q5) = some ([i64 x6], inQ q6))
    (h7 : Ev tab G0 n_entry_reader_count [.ptr 0 0] (inQ q6) = some ([i64 x7], inQ ⟨r7, false⟩))
    (h8 : Ev tab G0 n_coder_Reader_Byte [.ptr 0 0] [rO r7] = some ([u8 kd], [rO r8]))
    (h9 : Ev tab G0 n_entry_reader_entries [.ptr 0 0] (inQ ⟨r8, false⟩) = some ([.sl true (eE x9)], inQ q9))
    (h10 : Ev tab G0 n_entry_reader_members [.ptr 0 0] (inQ q9) = some ([.sl true (eI .i64 x10)], inQ q10))
    (h11 : Ev tab G0 n_entry_reader_count [.ptr 0 0] (inQ q10) = some ([i64 x11], inQ ⟨r11, false⟩))
    (h12 : Ev tab G0 n_coder_Reader_Bytes [.ptr 0 0, i64 32] [rO r11] = some ([.sl true (eB x12)], [rO r12]))
    (h13 : Ev tab G0 n_coder_Reader_Bytes [.ptr 0 0, i64 1048576] [rO r12] = some ([.sl true (eB x13)], [rO r13]))
    (h14 : Ev tab G0 n_code_Read [.sl true (eB x13)] [] = some ([.agg [i64 t.kind, .sl true (eB t.key), .sl true (eB t.value), .sl true (eB t.digest), .sl true (eT t.kids)], .s .nilIface], []))
    (h15 : Ev tab G0 n_entry_reader_end [.ptr 0 0] (inQ ⟨r13, false⟩) = some ([errA 4], inQ ⟨r13, false⟩)) :
    Ev tab G0 n_entry_Read [.sl true (eB b)] [] = some ([avMsg MG.no, errA 4], []) := by
  rw [avMsg_no]
  refine Ev_run t_entry_Read rfl rfl ?_
  simp (maxSteps := 1000000) (disch := first | omega | (simp only [lens, List.length_map]; omega)) only [go_sem, ↓reduceIte, Nat.reduceSub, Nat.reduceAdd, Nat.reduceMul, Nat.reduceLeDiff, Nat.reduceLT, Nat.reduceEqDiff, Nat.reduceBEq, Int.reduceLE, Int.reduceLT, Int.reduceEq, Int.reduceNeg, Int.reduceAdd, Int.reduceSub, Int.reduceMul, Int.reduceToNat, i_entry_Read, hl, hk, h0, h1, h2, h3, h4, h5, h6, h7, h8, h9, h10, h11, h12, h13, h14, h15]
theorem Rc_false_lt_false_n_3 (b : List UInt8) (hl : ¬ 1048576 < b.length) (x1 x2 x3 x4 x5 x6 x7 : Int) (q1 q2 q3 q4 q5 q6 : Rq) (r7 : Rd) (kd : Int) (r8 : Rd) (x9 : List Ent) (q9 : Rq) (x10 : List Int) (q10 : Rq) (x11 : Int) (r11 : Rd) (x12 : List UInt8) (r12 : Rd) (x13 : List UInt8) (r13 : Rd) (t : T) (c : Int) (hk : ¬ 1 < kd)
    (h0 : Ev tab G0 n_coder_NewReader [.sl true (eB b)] [] = some ([.ptr 0 0], [rO ⟨b, false⟩]))
    (h1 : Ev tab G0 n_entry_reader_count [.ptr 0 0] [oQ 1 false, rO ⟨b, false⟩] = some ([i64 x1], inQ q1))
    (h2 : Ev tab G0 n_entry_reader_count [.ptr 0 0] (inQ q1) = some ([i64 x2], inQ q2))
    (h3 : Ev tab G0 n_entry_reader_count [.ptr 0 0] (inQ q2) = some ([i64 x3], inQ q3))
    (h4 : Ev tab G0 n_entry_reader_count [.ptr 0 0] (inQ q3) = some ([i64 x4], inQ q4))
    (h5 : Ev tab G0 n_entry_reader_count [.ptr 0 0] (inQ q4) = some ([i64 x5], inQ q5))
    (h6 : Ev tab G0 n_entry_reader_count [.ptr 0 0] (inQ q5) = some ([i64 x6], inQ q6))
    (h7 : Ev tab G0 n_entry_reader_count [.ptr 0 0] (inQ q6) = some ([i64 x7], inQ ⟨r7, false⟩))
    (h8 : Ev tab G0 n_coder_Reader_Byte [.ptr 0 0] [rO r7] = some ([u8 kd], [rO r8]))
    (h9 : Ev tab G0 n_entry_reader_entries [.ptr 0 0] (inQ ⟨r8, false⟩) = some ([.sl true (eE x9)], inQ q9))
    (h10 : Ev tab G0 n_entry_reader_members [.ptr 0 0] (inQ q9) = some ([.sl true (eI .i64 x10)], inQ q10))
    (h11 : Ev tab G0 n_entry_reader_count [.ptr 0 0] (inQ q10) = some ([i64 x11], inQ ⟨r11, false⟩))
    (h12 : Ev tab G0 n_coder_Reader_Bytes [.ptr 0 0, i64 32] [rO r11] = some ([.sl true (eB x12)], [rO r12]))
    (h13 : Ev tab G0 n_coder_Reader_Bytes [.ptr 0 0, i64 1048576] [rO r12] = some ([.sl true (eB x13)], [rO r13]))
    (h14 : Ev tab G0 n_code_Read [.sl true (eB x13)] [] = some ([.agg [i64 t.kind, .sl true (eB t.key), .sl true (eB t.value), .sl true (eB t.digest), .sl true (eT t.kids)], errA c], []))
    (h15 : Ev tab G0 n_entry_reader_end [.ptr 0 0] (inQ ⟨r13, true⟩) = some ([errA 3], inQ ⟨r13, true⟩)) :
    Ev tab G0 n_entry_Read [.sl true (eB b)] [] = some ([avMsg MG.no, errA 3], []) := by
  rw [avMsg_no]
  refine Ev_run t_entry_Read rfl rfl ?_
  simp (maxSteps := 1000000) (disch := first | omega | (simp only [lens, List.length_map]; omega)) only [go_sem, ↓reduceIte, Nat.reduceSub, Nat.reduceAdd, Nat.reduceMul, Nat.reduceLeDiff, Nat.reduceLT, Nat.reduceEqDiff, Nat.reduceBEq, Int.reduceLE, Int.reduceLT, Int.reduceEq, Int.reduceNeg, Int.reduceAdd, Int.reduceSub, Int.reduceMul, Int.reduceToNat, i_entry_Read, hl, hk, h0, h1, h2, h3, h4, h5, h6, h7, h8, h9, h10, h11, h12, h13, h14, h15]
theorem Rc_false_lt_true_0_3 (b : List UInt8) (hl : ¬ 1048576 < b.length) (x1 x2 x3 x4 x5 x6 x7 : Int) (q1 q2 q3 q4 q5 q6 : Rq) (r7 : Rd) (kd : Int) (r8 : Rd) (x9 : List Ent) (q9 : Rq) (x10 : List Int) (q10 : Rq) (x11 : Int) (r11 : Rd) (x12 : List UInt8) (r12 : Rd) (x13 : List UInt8) (r13 : Rd) (t : T) (hk : ¬ 1 < kd)
    (h0 : Ev tab G0 n_coder_NewReader [.sl true (eB b)] [] = some ([.ptr 0 0], [rO ⟨b, false⟩]))
    (h1 : Ev tab G0 n_entry_reader_count [.ptr 0 0] [oQ 1 false, rO ⟨b, false⟩] = some ([i64 x1], inQ q1))
    (h2 : Ev tab G0 n_entry_reader_count [.ptr 0 0] (inQ q1) = some ([i64 x2], inQ q2))
    (h3 : Ev tab G0 n_entry_reader_count [.ptr 0 0] (inQ q2) = some ([i64 x3], inQ q3))
    (h4 : Ev tab G0 n_entry_reader_count [.ptr 0 0] (inQ q3) = some ([i64 x4], inQ q4))
    (h5 : Ev tab G0 n_entry_reader_count [.ptr 0 0] (inQ q4) = some ([i64 x5], inQ q5))
    (h6 : Ev tab G0 n_entry_reader_count [.ptr 0 0] (inQ q5) = some ([i64 x6], inQ q6))
    (h7 : Ev tab G0 n_entry_reader_count [.ptr 0 0] (inQ q6) = some ([i64 x7], inQ ⟨r7, false⟩))
    (h8 : Ev tab G0 n_coder_Reader_Byte [.ptr 0 0] [rO r7] = some ([u8 kd], [rO r8]))
    (h9 : Ev tab G0 n_entry_reader_entries [.ptr 0 0] (inQ ⟨r8, false⟩) = some ([.sl true (eE x9)], inQ q9))
    (h10 : Ev tab G0 n_entry_reader_members [.ptr 0 0] (inQ q9) = some ([.sl true (eI .i64 x10)], inQ q10))
    (h11 : Ev tab G0 n_entry_reader_count [.ptr 0 0] (inQ q10) = some ([i64 x11], inQ ⟨r11, true⟩))
    (h12 : Ev tab G0 n_coder_Reader_Bytes [.ptr 0 0, i64 32] [rO r11] = some ([.sl true (eB x12)], [rO r12]))
    (h13 : Ev tab G0 n_coder_Reader_Bytes [.ptr 0 0, i64 1048576] [rO r12] = some ([.sl true (eB x13)], [rO r13]))
    (h14 : Ev tab G0 n_code_Read [.sl true (eB x13)] [] = some ([.agg [i64 t.kind, .sl true (eB t.key), .sl true (eB t.value), .sl true (eB t.digest), .sl true (eT t.kids)], .s .nilIface], []))
    (h15 : Ev tab G0 n_entry_reader_end [.ptr 0 0] (inQ ⟨r13, true⟩) = some ([errA 3], inQ ⟨r13, true⟩)) :
    Ev tab G0 n_entry_Read [.sl true (eB b)] [] = some ([avMsg MG.no, errA 3], []) := by
  rw [avMsg_no]
  refine Ev_run t_entry_Read rfl rfl ?_
  simp (maxSteps := 1000000) (disch := first | omega | (simp only [lens, List.length_map]; omega)) only [go_sem, ↓reduceIte, Nat.reduceSub, Nat.reduceAdd, Nat.reduceMul, Nat.reduceLeDiff, Nat.reduceLT, Nat.reduceEqDiff, Nat.reduceBEq, Int.reduceLE, Int.reduceLT, Int.reduceEq, Int.reduceNeg, Int.reduceAdd, Int.reduceSub, Int.reduceMul, Int.reduceToNat, i_entry_Read, hl, hk, h0, h1, h2, h3, h4, h5, h6, h7, h8, h9, h10, h11, h12, h13, h14, h15]
theorem Rc_false_lt_true_n_3 (b : List UInt8) (hl : ¬ 1048576 < b.length) (x1 x2 x3 x4 x5 x6 x7 : Int) (q1 q2 q3 q4 q5 q6 : Rq) (r7 : Rd) (kd : Int) (r8 : Rd) (x9 : List Ent) (q9 : Rq) (x10 : List Int) (q10 : Rq) (x11 : Int) (r11 : Rd) (x12 : List UInt8) (r12 : Rd) (x13 : List UInt8) (r13 : Rd) (t : T) (c : Int) (hk : ¬ 1 < kd)
    (h0 : Ev tab G0 n_coder_NewReader [.sl true (eB b)] [] = some ([.ptr 0 0], [rO ⟨b, false⟩]))
    (h1 : Ev tab G0 n_entry_reader_count [.ptr 0 0] [oQ 1 false, rO ⟨b, false⟩] = some ([i64 x1], inQ q1))
    (h2 : Ev tab G0 n_entry_reader_count [.ptr 0 0] (inQ q1) = some ([i64 x2], inQ q2))
    (h3 : Ev tab G0 n_entry_reader_count [.ptr 0 0] (inQ q2) = some ([i64 x3], inQ q3))
    (h4 : Ev tab G0 n_entry_reader_count [.ptr 0 0] (inQ q3) = some ([i64 x4], inQ q4))
    (h5 : Ev tab G0 n_entry_reader_count [.ptr 0 0] (inQ q4) = some ([i64 x5], inQ q5))
    (h6 : Ev tab G0 n_entry_reader_count [.ptr 0 0] (inQ q5) = some ([i64 x6], inQ q6))
    (h7 : Ev tab G0 n_entry_reader_count [.ptr 0 0] (inQ q6) = some ([i64 x7], inQ ⟨r7, false⟩))
    (h8 : Ev tab G0 n_coder_Reader_Byte [.ptr 0 0] [rO r7] = some ([u8 kd], [rO r8]))
    (h9 : Ev tab G0 n_entry_reader_entries [.ptr 0 0] (inQ ⟨r8, false⟩) = some ([.sl true (eE x9)], inQ q9))
    (h10 : Ev tab G0 n_entry_reader_members [.ptr 0 0] (inQ q9) = some ([.sl true (eI .i64 x10)], inQ q10))
    (h11 : Ev tab G0 n_entry_reader_count [.ptr 0 0] (inQ q10) = some ([i64 x11], inQ ⟨r11, true⟩))
    (h12 : Ev tab G0 n_coder_Reader_Bytes [.ptr 0 0, i64 32] [rO r11] = some ([.sl true (eB x12)], [rO r12]))
    (h13 : Ev tab G0 n_coder_Reader_Bytes [.ptr 0 0, i64 1048576] [rO r12] = some ([.sl true (eB x13)], [rO r13]))
    (h14 : Ev tab G0 n_code_Read [.sl true (eB x13)] [] = some ([.agg [i64 t.kind, .sl true (eB t.key), .sl true (eB t.value), .sl true (eB t.digest), .sl true (eT t.kids)], errA c], []))
    (h15 : Ev tab G0 n_entry_reader_end [.ptr 0 0] (inQ ⟨r13, true⟩) = some ([errA 3], inQ ⟨r13, true⟩)) :
    Ev tab G0 n_entry_Read [.sl true (eB b)] [] = some ([avMsg MG.no, errA 3], []) := by
  rw [avMsg_no]
  refine Ev_run t_entry_Read rfl rfl ?_
  simp (maxSteps := 1000000) (disch := first | omega | (simp only [lens, List.length_map]; omega)) only [go_sem, ↓reduceIte, Nat.reduceSub, Nat.reduceAdd, Nat.reduceMul, Nat.reduceLeDiff, Nat.reduceLT, Nat.reduceEqDiff, Nat.reduceBEq, Int.reduceLE, Int.reduceLT, Int.reduceEq, Int.reduceNeg, Int.reduceAdd, Int.reduceSub, Int.reduceMul, Int.reduceToNat, i_entry_Read, hl, hk, h0, h1, h2, h3, h4, h5, h6, h7, h8, h9, h10, h11, h12, h13, h14, h15]
theorem Rc_false_gt_false_0_3 (b : List UInt8) (hl : ¬ 1048576 < b.length) (x1 x2 x3 x4 x5 x6 x7 : Int) (q1 q2 q3 q4 q5 q6 : Rq) (r7 : Rd) (kd : Int) (r8 : Rd) (x9 : List Ent) (q9 : Rq) (x10 : List Int) (q10 : Rq) (x11 : Int) (r11 : Rd) (x12 : List UInt8) (r12 : Rd) (x13 : List UInt8) (r13 : Rd) (t : T) (hk : 1 < kd)
    (h0 : Ev tab G0 n_coder_NewReader [.sl true (eB b)] [] = some ([.ptr 0 0], [rO ⟨b, false⟩]))
    (h1 : Ev tab G0 n_entry_reader_count [.ptr 0 0] [oQ 1 false, rO ⟨b, false⟩] = some ([i64 x1], inQ q1))
    (h2 : Ev tab G0 n_entry_reader_count [.ptr 0 0] (inQ q1) = some ([i64 x2], inQ q2))
    (h3 : Ev tab G0 n_entry_reader_count [.ptr 0 0] (inQ q2) = some ([i64 x3], inQ q3))
    (h4 : Ev tab G0 n_entry_reader_count [.ptr 0 0] (inQ q3) = some ([i64 x4], inQ q4))
    (h5 : Ev tab G0 n_entry_reader_count [.ptr 0 0] (inQ q4) = some ([i64 x5], inQ q5))
    (h6 : Ev tab G0 n_entry_reader_count [.ptr 0 0] (inQ q5) = some ([i64 x6], inQ q6))
    (h7 : Ev tab G0 n_entry_reader_count [.ptr 0 0] (inQ q6) = some ([i64 x7], inQ ⟨r7, false⟩))
    (h8 : Ev tab G0 n_coder_Reader_Byte [.ptr 0 0] [rO r7] = some ([u8 kd], [rO r8]))
    (h9 : Ev tab G0 n_entry_reader_entries [.ptr 0 0] (inQ ⟨r8, true⟩) = some ([.sl true (eE x9)], inQ q9))
    (h10 : Ev tab G0 n_entry_reader_members [.ptr 0 0] (inQ q9) = some ([.sl true (eI .i64 x10)], inQ q10))
    (h11 : Ev tab G0 n_entry_reader_count [.ptr 0 0] (inQ q10) = some ([i64 x11], inQ ⟨r11, false⟩))
    (h12 : Ev tab G0 n_coder_Reader_Bytes [.ptr 0 0, i64 32] [rO r11] = some ([.sl true (eB x12)], [rO r12]))
    (h13 : Ev tab G0 n_coder_Reader_Bytes [.ptr 0 0, i64 1048576] [rO r12] = some ([.sl true (eB x13)], [rO r13]))
    (h14 : Ev tab G0 n_code_Read [.sl true (eB x13)] [] = some ([.agg [i64 t.kind, .sl true (eB t.key), .sl true (eB t.value), .sl true (eB t.digest), .sl true (eT t.kids)], .s .nilIface], []))
    (h15 : Ev tab G0 n_entry_reader_end [.ptr 0 0] (inQ ⟨r13, false⟩) = some ([errA 3], inQ ⟨r13, false⟩)) :
    Ev tab G0 n_entry_Read [.sl true (eB b)] [] = some ([avMsg MG.no, errA 3], []) := by
  rw [avMsg_no]
  refine Ev_run t_entry_Read rfl rfl ?_
  simp (maxSteps := 1000000) (disch := first | omega | (simp only [lens, List.length_map]; omega)) only [go_sem, ↓reduceIte, Nat.reduceSub, Nat.reduceAdd, Nat.reduceMul, Nat.reduceLeDiff, Nat.reduceLT, Nat.reduceEqDiff, Nat.reduceBEq, Int.reduceLE, Int.reduceLT, Int.reduceEq, Int.reduceNeg, Int.reduceAdd, Int.reduceSub, Int.reduceMul, Int.reduceToNat, i_entry_Read, hl, hk, h0, h1, h2, h3, h4, h5, h6, h7, h8, h9, h10, h11, h12, h13, h14, h15]
theorem Rc_false_gt_false_n_3 (b : List UInt8) (hl : ¬ 1048576 < b.length) (x1 x2 x3 x4 x5 x6 x7 : Int) (q1 q2 q3 q4 q5 q6 : Rq) (r7 : Rd) (kd : Int) (r8 : Rd) (x9 : List Ent) (q9 : Rq) (x10 : List Int) (q10 : Rq) (x11 : Int) (r11 : Rd) (x12 : List UInt8) (r12 : Rd) (x13 : List UInt8) (r13 : Rd) (t : T) (c : Int) (hk : 1 < kd)
    (h0 : Ev tab G0 n_coder_NewReader [.sl true (eB b)] [] = some ([.ptr 0 0], [rO ⟨b, false⟩]))
    (h1 : Ev tab G0 n_entry_reader_count [.ptr 0 0] [oQ 1 false, rO ⟨b, false⟩] = some ([i64 x1], inQ q1))
    (h2 : Ev tab G0 n_entry_reader_count [.ptr 0 0] (inQ q1) = some ([i64 x2], inQ q2))
    (h3 : Ev tab G0 n_entry_reader_count [.ptr 0 0] (inQ q2) = some ([i64 x3], inQ q3))
    (h4 : Ev tab G0 n_entry_reader_count [.ptr 0 0] (inQ q3) = some ([i64 x4], inQ q4))
    (h5 : Ev tab G0 n_entry_reader_count [.ptr 0 0] (inQ q4) = some ([i64 x5], inQ q5))
    (h6 : Ev tab G0 n_entry_reader_count [.ptr 0 0] (inQ q5) = some ([i64 x6], inQ q6))
    (h7 : Ev tab G0 n_entry_reader_count [.ptr 0 0] (inQ q6) = some ([i64 x7], inQ ⟨r7, false⟩))
    (h8 : Ev tab G0 n_coder_Reader_Byte [.ptr 0 0] [rO r7] = some ([u8 kd], [rO r8]))
    (h9 : Ev tab G0 n_entry_reader_entries [.ptr 0 0] (inQ ⟨r8, true⟩) = some ([.sl true (eE x9)], inQ q9))
    (h10 : Ev tab G0 n_entry_reader_members [.ptr 0 0] (inQ q9) = some ([.sl true (eI .i64 x10)], inQ q10))
    (h11 : Ev tab G0 n_entry_reader_count [.ptr 0 0] (inQ q10) = some ([i64 x11], inQ ⟨r11, false⟩))
    (h12 : Ev tab G0 n_coder_Reader_Bytes [.ptr 0 0, i64 32] [rO r11] = some ([.sl true (eB x12)], [rO r12]))
    (h13 : Ev tab G0 n_coder_Reader_Bytes [.ptr 0 0, i64 1048576] [rO r12] = some ([.sl true (eB x13)], [rO r13]))
    (h14 : Ev tab G0 n_code_Read [.sl true (eB x13)] [] = some ([.agg [i64 t.kind, .sl true (eB t.key), .sl true (eB t.value), .sl true (eB t.digest), .sl true (eT t.kids)], errA c], []))
    (h15 : Ev tab G0 n_entry_reader_end [.ptr 0 0] (inQ ⟨r13, true⟩) = some ([errA 3], inQ ⟨r13, true⟩)) :
    Ev tab G0 n_entry_Read [.sl true (eB b)] [] = some ([avMsg MG.no, errA 3], []) := by
  rw [avMsg_no]
  refine Ev_run t_entry_Read rfl rfl ?_
  simp (maxSteps := 1000000) (disch := first | omega | (simp only [lens, List.length_map]; omega)) only [go_sem, ↓reduceIte, Nat.reduceSub, Nat.reduceAdd, Nat.reduceMul, Nat.reduceLeDiff, Nat.reduceLT, Nat.reduceEqDiff, Nat.reduceBEq, Int.reduceLE, Int.reduceLT, Int.reduceEq, Int.reduceNeg, Int.reduceAdd, Int.reduceSub, Int.reduceMul, Int.reduceToNat, i_entry_Read, hl, hk, h0, h1, h2, h3, h4, h5, h6, h7, h8, h9, h10, h11, h12, h13, h14, h15]
theorem Rc_false_gt_true_0_3 (b : List UInt8) (hl : ¬ 1048576 < b.length) (x1 x2 x3 x4 x5 x6 x7 : Int) (q1 q2 q3 q4 q5 q6 : Rq) (r7 : Rd) (kd : Int) (r8 : Rd) (x9 : List Ent) (q9 : Rq) (x10 : List Int) (q10 : Rq) (x11 : Int) (r11 : Rd) (x12 : List UInt8) (r12 : Rd) (x13 : List UInt8) (r13 : Rd) (t : T) (hk : 1 < kd)
    (h0 : Ev tab G0 n_coder_NewReader [.sl true (eB b)] [] = some ([.ptr 0 0], [rO ⟨b, false⟩]))
    (h1 : Ev tab G0 n_entry_reader_count [.ptr 0 0] [oQ 1 false, rO ⟨b, false⟩] = some ([i64 x1], inQ q1))
    (h2 : Ev tab G0 n_entry_reader_count [.ptr 0 0] (inQ q1) = some ([i64 x2], inQ q2))
    (h3 : Ev tab G0 n_entry_reader_count [.ptr 0 0] (inQ q2) = some ([i64 x3], inQ q3))
    (h4 : Ev tab G0 n_entry_reader_count [.ptr 0 0] (inQ q3) = some ([i64 x4], inQ q4))
    (h5 : Ev tab G0 n_entry_reader_count [.ptr 0 0] (inQ q4) = some ([i64 x5], inQ q5))
    (h6 : Ev tab G0 n_entry_reader_count [.ptr 0 0] (inQ q5) = some ([i64 x6], inQ q6))
    (h7 : Ev tab G0 n_entry_reader_count [.ptr 0 0] (inQ q6) = some ([i64 x7], inQ ⟨r7, false⟩))
    (h8 : Ev tab G0 n_coder_Reader_Byte [.ptr 0 0] [rO r7] = some ([u8 kd], [rO r8]))
    (h9 : Ev tab G0 n_entry_reader_entries [.ptr 0 0] (inQ ⟨r8, true⟩) = some ([.sl true (eE x9)], inQ q9))
    (h10 : Ev tab G0 n_entry_reader_members [.ptr 0 0] (inQ q9) = some ([.sl true (eI .i64 x10)], inQ q10))
    (h11 : Ev tab G0 n_entry_reader_count [.ptr 0 0] (inQ q10) = some ([i64 x11], inQ ⟨r11, true⟩))
    (h12 : Ev tab G0 n_coder_Reader_Bytes [.ptr 0 0, i64 32] [rO r11] = some ([.sl true (eB x12)], [rO r12]))
    (h13 : Ev tab G0 n_coder_Reader_Bytes [.ptr 0 0, i64 1048576] [rO r12] = some ([.sl true (eB x13)], [rO r13]))
    (h14 : Ev tab G0 n_code_Read [.sl true (eB x13)] [] = some ([.agg [i64 t.kind, .sl true (eB t.key), .sl true (eB t.value), .sl true (eB t.digest), .sl true (eT t.kids)], .s .nilIface], []))
    (h15 : Ev tab G0 n_entry_reader_end [.ptr 0 0] (inQ ⟨r13, true⟩) = some ([errA 3], inQ ⟨r13, true⟩)) :
    Ev tab G0 n_entry_Read [.sl true (eB b)] [] = some ([avMsg MG.no, errA 3], []) := by
  rw [avMsg_no]
  refine Ev_run t_entry_Read rfl rfl ?_
  simp (maxSteps := 1000000) (disch := first | omega | (simp only [lens, List.length_map]; omega)) only [go_sem, ↓reduceIte, Nat.reduceSub, Nat.reduceAdd, Nat.reduceMul, Nat.reduceLeDiff, Nat.reduceLT, Nat.reduceEqDiff, Nat.reduceBEq, Int.reduceLE, Int.reduceLT, Int.reduceEq, Int.reduceNeg, Int.reduceAdd, Int.reduceSub, Int.reduceMul, Int.reduceToNat, i_entry_Read, hl, hk, h0, h1, h2, h3, h4, h5, h6, h7, h8, h9, h10, h11, h12, h13, h14, h15]
theorem Rc_false_gt_true_n_3 (b : List UInt8) (hl : ¬ 1048576 < b.length) (x1 x2 x3 x4 x5 x6 x7 : Int) (q1 q2 q3 q4 q5 q6 : Rq) (r7 : Rd) (kd : Int) (r8 : Rd) (x9 : List Ent) (q9 : Rq) (x10 : List Int) (q10 : Rq) (x11 : Int) (r11 : Rd) (x12 : List UInt8) (r12 : Rd) (x13 : List UInt8) (r13 : Rd) (t : T) (c : Int) (hk : 1 < kd)
    (h0 : Ev tab G0 n_coder_NewReader [.sl true (eB b)] [] = some ([.ptr 0 0], [rO ⟨b, false⟩]))
    (h1 : Ev tab G0 n_entry_reader_count [.ptr 0 0] [oQ 1 false, rO ⟨b, false⟩] = some ([i64 x1], inQ q1))
    (h2 : Ev tab G0 n_entry_reader_count [.ptr 0 0] (inQ q1) = some ([i64 x2], inQ q2))
    (h3 : Ev tab G0 n_entry_reader_count [.ptr 0 0] (inQ q2) = some ([i64 x3], inQ q3))
    (h4 : Ev tab G0 n_entry_reader_count [.ptr 0 0] (inQ q3) = some ([i64 x4], inQ q4))
    (h5 : Ev tab G0 n_entry_reader_count [.ptr 0 0] (inQ q4) = some ([i64 x5], inQ q5))
    (h6 : Ev tab G0 n_entry_reader_count [.ptr 0 0] (inQ q5) = some ([i64 x6], inQ q6))
    (h7 : Ev tab G0 n_entry_reader_count [.ptr 0 0] (inQ q6) = some ([i64 x7], inQ ⟨r7, false⟩))
    (h8 : Ev tab G0 n_coder_Reader_Byte [.ptr 0 0] [rO r7] = some ([u8 kd], [rO r8]))
    (h9 : Ev tab G0 n_entry_reader_entries [.ptr 0 0] (inQ ⟨r8, true⟩) = some ([.sl true (eE x9)], inQ q9))
    (h10 : Ev tab G0 n_entry_reader_members [.ptr 0 0] (inQ q9) = some ([.sl true (eI .i64 x10)], inQ q10))
    (h11 : Ev tab G0 n_entry_reader_count [.ptr 0 0] (inQ q10) = some ([i64 x11], inQ ⟨r11, true⟩))
    (h12 : Ev tab G0 n_coder_Reader_Bytes [.ptr 0 0, i64 32] [rO r11] = some ([.sl true (eB x12)], [rO r12]))
    (h13 : Ev tab G0 n_coder_Reader_Bytes [.ptr 0 0, i64 1048576] [rO r12] = some ([.sl true (eB x13)], [rO r13]))
    (h14 : Ev tab G0 n_code_Read [.sl true (eB x13)] [] = some ([.agg [i64 t.kind, .sl true (eB t.key), .sl true (eB t.value), .sl true (eB t.digest), .sl true (eT t.kids)], errA c], []))
    (h15 : Ev tab G0 n_entry_reader_end [.ptr 0 0] (inQ ⟨r13, true⟩) = some ([errA 3], inQ ⟨r13, true⟩)) :
    Ev tab G0 n_entry_Read [.sl true (eB b)] [] = some ([avMsg MG.no, errA 3], []) := by
  rw [avMsg_no]
  refine Ev_run t_entry_Read rfl rfl ?_
  simp (maxSteps := 1000000) (disch := first | omega | (simp only [lens, List.length_map]; omega)) only [go_sem, ↓reduceIte, Nat.reduceSub, Nat.reduceAdd, Nat.reduceMul, Nat.reduceLeDiff, Nat.reduceLT, Nat.reduceEqDiff, Nat.reduceBEq, Int.reduceLE, Int.reduceLT, Int.reduceEq, Int.reduceNeg, Int.reduceAdd, Int.reduceSub, Int.reduceMul, Int.reduceToNat, i_entry_Read, hl, hk, h0, h1, h2, h3, h4, h5, h6, h7, h8, h9, h10, h11, h12, h13, h14, h15]
theorem Rc_true_lt_false_0_3 (b : List UInt8) (hl : ¬ 1048576 < b.length) (x1 x2 x3 x4 x5 x6 x7 : Int) (q1 q2 q3 q4 q5 q6 : Rq) (r7 : Rd) (kd : Int) (r8 : Rd) (x9 : List Ent) (q9 : Rq) (x10 : List Int) (q10 : Rq) (x11 : Int) (r11 : Rd) (x12 : List UInt8) (r12 : Rd) (x13 : List UInt8) (r13 : Rd) (t : T) (hk : ¬ 1 < kd)
    (h0 : Ev tab G0 n_coder_NewReader [.sl true (eB b)] [] = some ([.ptr 0 0], [rO ⟨b, false⟩]))
    (h1 : Ev tab G0 n_entry_reader_count [.ptr 0 0] [oQ 1 false, rO ⟨b, false⟩] = some ([i64 x1], inQ q1))
    (h2 : Ev tab G0 n_entry_reader_count [.ptr 0 0] (inQ q1) = some ([i64 x2], inQ q2))
    (h3 : Ev tab G0 n_entry_reader_count [.ptr 0 0] (inQ q2) = some ([i64 x3], inQ q3))
    (h4 : Ev tab G0 n_entry_reader_count [.ptr 0 0] (inQ q3) = some ([i64 x4], inQ q4))
    (h5 : Ev tab G0 n_entry_reader_count [.ptr 0 0] (inQ q4) = some ([i64 x5], inQ q5))
    (h6 : Ev tab G0 n_entry_reader_count [.ptr 0 0] (inQ q5) = some ([i64 x6], inQ q6))
    (h7 : Ev tab G0 n_entry_reader_count [.ptr 0 0] (inQ q6) = some ([i64 x7], inQ ⟨r7, true⟩))
    (h8 : Ev tab G0 n_coder_Reader_Byte [.ptr 0 0] [rO r7] = some ([u8 kd], [rO r8]))
    (h9 : Ev tab G0 n_entry_reader_entries [.ptr 0 0] (inQ ⟨r8, true⟩) = some ([.sl true (eE x9)], inQ q9))
    (h10 : Ev tab G0 n_entry_reader_members [.ptr 0 0] (inQ q9) = some ([.sl true (eI .i64 x10)], inQ q10))
    (h11 : Ev tab G0 n_entry_reader_count [.ptr 0 0] (inQ q10) = some ([i64 x11], inQ ⟨r11, false⟩))
    (h12 : Ev tab G0 n_coder_Reader_Bytes [.ptr 0 0, i64 32] [rO r11] = some ([.sl true (eB x12)], [rO r12]))
    (h13 : Ev tab G0 n_coder_Reader_Bytes [.ptr 0 0, i64 1048576] [rO r12] = some ([.sl true (eB x13)], [rO r13]))
    (h14 : Ev tab G0 n_code_Read [.sl true (eB x13)] [] = some ([.agg [i64 t.kind, .sl true (eB t.key), .sl true (eB t.value), .sl true (eB t.digest), .sl true (eT t.kids)], .s .nilIface], []))
    (h15 : Ev tab G0 n_entry_reader_end [.ptr 0 0] (inQ ⟨r13, false⟩) = some ([errA 3], inQ ⟨r13, false⟩)) :
    Ev tab G0 n_entry_Read [.sl true (eB b)] [] = some ([avMsg MG.no, errA 3], []) := by
  rw [avMsg_no]
  refine Ev_run t_entry_Read rfl rfl ?_
  simp (maxSteps := 1000000) (disch := first | omega | (simp only [lens, List.length_map]; omega)) only [go_sem, ↓reduceIte, Nat.reduceSub, Nat.reduceAdd, Nat.reduceMul, Nat.reduceLeDiff, Nat.reduceLT, Nat.reduceEqDiff, Nat.reduceBEq, Int.reduceLE, Int.reduceLT, Int.reduceEq, Int.reduceNeg, Int.reduceAdd, Int.reduceSub, Int.reduceMul, Int.reduceToNat, i_entry_Read, hl, hk, h0, h1, h2, h3, h4, h5, h6, h7, h8, h9, h10, h11, h12, h13, h14, h15]
theorem Rc_true_lt_false_n_3 (b : List UInt8) (hl : ¬ 1048576 < b.length) (x1 x2 x3 x4 x5 x6 x7 : Int) (q1 q2 q3 q4 q5 q6 : Rq) (r7 : Rd) (kd : Int) (r8 : Rd) (x9 : List Ent) (q9 : Rq) (x10 : List Int) (q10 : Rq) (x11 : Int) (r11 : Rd) (x12 : List UInt8) (r12 : Rd) (x13 : List UInt8) (r13 : Rd) (t : T) (c : Int) (hk : ¬ 1 < kd)
    (h0 : Ev tab G0 n_coder_NewReader [.sl true (eB b)] [] = some ([.ptr 0 0], [rO ⟨b, false⟩]))
    (h1 : Ev tab G0 n_entry_reader_count [.ptr 0 0] [oQ 1 false, rO ⟨b, false⟩] = some ([i64 x1], inQ q1))
    (h2 : Ev tab G0 n_entry_reader_count [.ptr 0 0] (inQ q1) = some ([i64 x2], inQ q2))
    (h3 : Ev tab G0 n_entry_reader_count [.ptr 0 0] (inQ q2) = some ([i64 x3], inQ q3))
    (h4 : Ev tab G0 n_entry_reader_count [.ptr 0 0] (inQ q3) = some ([i64 x4], inQ q4))
    (h5 : Ev tab G0 n_entry_reader_count [.ptr 0 0] (inQ q4) = some ([i64 x5], inQ q5))
    (h6 : Ev tab G0 n_entry_reader_count [.ptr 0 0] (inQ q5) = some ([i64 x6], inQ q6))
    (h7 : Ev tab G0 n_entry_reader_count [.ptr 0 0] (inQ q6) = some ([i64 x7], inQ ⟨r7, true⟩))
    (h8 : Ev tab G0 n_coder_Reader_Byte [.ptr 0 0] [rO r7] = some ([u8 kd], [rO r8]))
    (h9 : Ev tab G0 n_entry_reader_entries [.ptr 0 0] (inQ ⟨r8, true⟩) = some ([.sl true (eE x9)], inQ q9))
    (h10 : Ev tab G0 n_entry_reader_members [.ptr 0 0] (inQ q9) = some ([.sl true (eI .i64 x10)], inQ q10))
    (h11 : Ev tab G0 n_entry_reader_count [.ptr 0 0] (inQ q10) = some ([i64 x11], inQ ⟨r11, false⟩))
    (h12 : Ev tab G0 n_coder_Reader_Bytes [.ptr 0 0, i64 32] [rO r11] = some ([.sl true (eB x12)], [rO r12]))
    (h13 : Ev tab G0 n_coder_Reader_Bytes [.ptr 0 0, i64 1048576] [rO r12] = some ([.sl true (eB x13)], [rO r13]))
    (h14 : Ev tab G0 n_code_Read [.sl true (eB x13)] [] = some ([.agg [i64 t.kind, .sl true (eB t.key), .sl true (eB t.value), .sl true (eB t.digest), .sl true (eT t.kids)], errA c], []))
    (h15 : Ev tab G0 n_entry_reader_end [.ptr 0 0] (inQ ⟨r13, true⟩) = some ([errA 3], inQ ⟨r13, true⟩)) :
    Ev tab G0 n_entry_Read [.sl true (eB b)] [] = some ([avMsg MG.no, errA 3], []) := by
  rw [avMsg_no]
  refine Ev_run t_entry_Read rfl rfl ?_
  simp (maxSteps := 1000000) (disch := first | omega | (simp only [lens, List.length_map]; omega)) only [go_sem, ↓reduceIte, Nat.reduceSub, Nat.reduceAdd, Nat.reduceMul, Nat.reduceLeDiff, Nat.reduceLT, Nat.reduceEqDiff, Nat.reduceBEq, Int.reduceLE, Int.reduceLT, Int.reduceEq, Int.reduceNeg, Int.reduceAdd, Int.reduceSub, Int.reduceMul, Int.reduceToNat, i_entry_Read, hl, hk, h0, h1, h2, h3, h4, h5, h6, h7, h8, h9, h10, h11, h12, h13, h14, h15]
theorem Rc_true_lt_true_0_3 (b : List UInt8) (hl : ¬ 1048576 < b.length) (x1 x2 x3 x4 x5 x6 x7 : Int) (q1 q2 q3 q4 q5 q6 : Rq) (r7 : Rd) (kd : Int) (r8 : Rd) (x9 : List Ent) (q9 : Rq) (x10 : List Int) (q10 : Rq) (x11 : Int) (r11 : Rd) (x12 : List UInt8) (r12 : Rd) (x13 : List UInt8) (r13 : Rd) (t : T) (hk : ¬ 1 < kd)
    (h0 : Ev tab G0 n_coder_NewReader [.sl true (eB b)] [] = some ([.ptr 0 0], [rO ⟨b, false⟩]))
    (h1 : Ev tab G0 n_entry_reader_count [.ptr 0 0] [oQ 1 false, rO ⟨b, false⟩] = some ([i64 x1], inQ q1))
    (h2 : Ev tab G0 n_entry_reader_count [.ptr 0 0] (inQ q1) = some ([i64 x2], inQ q2))
    (h3 : Ev tab G0 n_entry_reader_count [.ptr 0 0] (inQ q2) = some ([i64 x3], inQ q3))
    (h4 : Ev tab G0 n_entry_reader_count [.ptr 0 0] (inQ q3) = some ([i64 x4], inQ q4))
    (h5 : Ev tab G0 n_entry_reader_count [.ptr 0 0] (inQ q4) = some ([i64 x5], inQ q5))
    (h6 : Ev tab G0 n_entry_reader_count [.ptr 0 0] (inQ q5) = some ([i64 x6], inQ q6))
    (h7 : Ev tab G0 n_entry_reader_count [.ptr 0 0] (inQ q6) = some ([i64 x7], inQ ⟨r7, true⟩))
    (h8 : Ev tab G0 n_coder_Reader_Byte [.ptr 0 0] [rO r7] = some ([u8 kd], [rO r8]))
    (h9 : Ev tab G0 n_entry_reader_entries [.ptr 0 0] (inQ ⟨r8, true⟩) = some ([.sl true (eE x9)], inQ q9))
    (h10 : Ev tab G0 n_entry_reader_members [.ptr 0 0] (inQ q9) = some ([.sl true (eI .i64 x10)], inQ q10))
    (h11 : Ev tab G0 n_entry_reader_count [.ptr 0 0] (inQ q10) = some ([i64 x11], inQ ⟨r11, true⟩))
    (h12 : Ev tab G0 n_coder_Reader_Bytes [.ptr 0 0, i64 32] [rO r11] = some ([.sl true (eB x12)], [rO r12]))
    (h13 : Ev tab G0 n_coder_Reader_Bytes [.ptr 0 0, i64 1048576] [rO r12] = some ([.sl true (eB x13)], [rO r13]))
    (h14 : Ev tab G0 n_code_Read [.sl true (eB x13)] [] = some ([.agg [i64 t.kind, .sl true (eB t.key), .sl true (eB t.value), .sl true (eB t.digest), .sl true (eT t.kids)], .s .nilIface], []))
    (h15 : Ev tab G0 n_entry_reader_end [.ptr 0 0] (inQ ⟨r13, true⟩) = some ([errA 3], inQ ⟨r13, true⟩)) :
    Ev tab G0 n_entry_Read [.sl true (eB b)] [] = some ([avMsg MG.no, errA 3], []) := by
  rw [avMsg_no]
  refine Ev_run t_entry_Read rfl rfl ?_
  simp (maxSteps := 1000000) (disch := first | omega | (simp only [lens, List.length_map]; omega)) only [go_sem, ↓reduceIte, Nat.reduceSub, Nat.reduceAdd, Nat.reduceMul, Nat.reduceLeDiff, Nat.reduceLT, Nat.reduceEqDiff, Nat.reduceBEq, Int.reduceLE, Int.reduceLT, Int.reduceEq, Int.reduceNeg, Int.reduceAdd, Int.reduceSub, Int.reduceMul, Int.reduceToNat, i_entry_Read, hl, hk, h0, h1, h2, h3, h4, h5, h6, h7, h8, h9, h10, h11, h12, h13, h14, h15]
theorem Rc_true_lt_true_n_3 (b : List UInt8) (hl : ¬ 1048576 < b.length) (x1 x2 x3 x4 x5 x6 x7 : Int) (q1 q2 q3 q4 q5 q6 : Rq) (r7 : Rd) (kd : Int) (r8 : Rd) (x9 : List Ent) (q9 : Rq) (x10 : List Int) (q10 : Rq) (x11 : Int) (r11 : Rd) (x12 : List UInt8) (r12 : Rd) (x13 : List UInt8) (r13 : Rd) (t : T) (c : Int) (hk : ¬ 1 < kd)
    (h0 : Ev tab G0 n_coder_NewReader [.sl true (eB b)] [] = some ([.ptr 0 0], [rO ⟨b, false⟩]))
    (h1 : Ev tab G0 n_entry_reader_count [.ptr 0 0] [oQ 1 false, rO ⟨b, false⟩] = some ([i64 x1], inQ q1))
    (h2 : Ev tab G0 n_entry_reader_count [.ptr 0 0] (inQ q1) = some ([i64 x2], inQ q2))
    (h3 : Ev tab G0 n_entry_reader_count [.ptr 0 0] (inQ q2) = some ([i64 x3], inQ q3))
    (h4 : Ev tab G0 n_entry_reader_count [.ptr 0 0] (inQ q3) = some ([i64 x4], inQ q4))
    (h5 : Ev tab G0 n_entry_reader_count [.ptr 0 0] (inQ q4) = some ([i64 x5], inQ q5))
    (h6 : Ev tab G0 n_entry_reader_count [.ptr 0 0] (inQ q5) = some ([i64 x6], inQ q6))
    (h7 : Ev tab G0 n_entry_reader_count [.ptr 0 0] (inQ q6) = some ([i64 x7], inQ ⟨r7, true⟩))
    (h8 : Ev tab G0 n_coder_Reader_Byte [.ptr 0 0] [rO r7] = some ([u8 kd], [rO r8]))
    (h9 : Ev tab G0 n_entry_reader_entries [.ptr 0 0] (inQ ⟨r8, true⟩) = some ([.sl true (eE x9)], inQ q9))
    (h10 : Ev tab G0 n_entry_reader_members [.ptr 0 0] (inQ q9) = some ([.sl true (eI .i64 x10)], inQ q10))
    (h11 : Ev tab G0 n_entry_reader_count [.ptr 0 0] (inQ q10) = some ([i64 x11], inQ ⟨r11, true⟩))
    (h12 : Ev tab G0 n_coder_Reader_Bytes [.ptr 0 0, i64 32] [rO r11] = some ([.sl true (eB x12)], [rO r12]))
    (h13 : Ev tab G0 n_coder_Reader_Bytes [.ptr 0 0, i64 1048576] [rO r12] = some ([.sl true (eB x13)], [rO r13]))
    (h14 : Ev tab G0 n_code_Read [.sl true (eB x13)] [] = some ([.agg [i64 t.kind, .sl true (eB t.key), .sl true (eB t.value), .sl true (eB t.digest), .sl true (eT t.kids)], errA c], []))
    (h15 : Ev tab G0 n_entry_reader_end [.ptr 0 0] (inQ ⟨r13, true⟩) = some ([errA 3], inQ ⟨r13, true⟩)) :
    Ev tab G0 n_entry_Read [.sl true (eB b)] [] = some ([avMsg MG.no, errA 3], []) := by
  rw [avMsg_no]
  refine Ev_run t_entry_Read rfl rfl ?_
  simp (maxSteps := 1000000) (disch := first | omega | (simp only [lens, List.length_map]; omega)) only [go_sem, ↓reduceIte, Nat.reduceSub, Nat.reduceAdd, Nat.reduceMul, Nat.reduceLeDiff, Nat.reduceLT, Nat.reduceEqDiff, Nat.reduceBEq, Int.reduceLE, Int.reduceLT, Int.reduceEq, Int.reduceNeg, Int.reduceAdd, Int.reduceSub, Int.reduceMul, Int.reduceToNat, i_entry_Read, hl, hk, h0, h1, h2, h3, h4, h5, h6, h7, h8, h9, h10, h11, h12, h13, h14, h15]
theorem Rc_true_gt_false_0_3 (b : List UInt8) (hl : ¬ 1048576 < b.length) (x1 x2 x3 x4 x5 x6 x7 : Int) (q1 q2 q3 q4 q5 q6 : Rq) (r7 : Rd) (kd : Int) (r8 : Rd) (x9 : List Ent) (q9 : Rq) (x10 : List Int) (q10 : Rq) (x11 : Int) (r11 : Rd) (x12 : List UInt8) (r12 : Rd) (x13 : List UInt8) (r13 : Rd) (t : T) (hk : 1 < kd)
    (h0 : Ev tab G0 n_coder_NewReader [.sl true (eB b)] [] = some ([.ptr 0 0], [rO ⟨b, false⟩]))
    (h1 : Ev tab G0 n_entry_reader_count [.ptr 0 0] [oQ 1 false, rO ⟨b, false⟩] = some ([i64 x1], inQ q1))
    (h2 : Ev tab G0 n_entry_reader_count [.ptr 0 0] (inQ q1) = some ([i64 x2], inQ q2))
    (h3 : Ev tab G0 n_entry_reader_count [.ptr 0 0] (inQ q2) = some ([i64 x3], inQ q3))
    (h4 : Ev tab G0 n_entry_reader_count [.ptr 0 0] (inQ q3) = some ([i64 x4], inQ q4))
    (h5 : Ev tab G0 n_entry_reader_count [.ptr 0 0] (inQ q4) = some ([i64 x5], inQ q5))
    (h6 : Ev tab G0 n_entry_reader_count [.ptr 0 0] (inQ q5) = some ([i64 x6], inQ q6))
    (h7 : Ev tab G0 n_entry_reader_count [.ptr 0 0] (inQ q6) = some ([i64 x7], inQ ⟨r7, true⟩))
    (h8 : Ev tab G0 n_coder_Reader_Byte [.ptr 0 0] [rO r7] = some ([u8 kd], [rO r8]))
    (h9 : Ev tab G0 n_entry_reader_entries [.ptr 0 0] (inQ ⟨r8, true⟩) = some ([.sl true (eE x9)], inQ q9))
    (h10 : Ev tab G0 n_entry_reader_members [.ptr 0 0] (inQ q9) = some ([.sl true (eI .i64 x10)], inQ q10))
    (h11 : Ev tab G0 n_entry_reader_count [.ptr 0 0] (inQ q10) = some ([i64 x11], inQ ⟨r11, false⟩))
    (h12 : Ev tab G0 n_coder_Reader_Bytes [.ptr 0 0, i64 32] [rO r11] = some ([.sl true (eB x12)], [rO r12]))
    (h13 : Ev tab G0 n_coder_Reader_Bytes [.ptr 0 0, i64 1048576] [rO r12] = some ([.sl true (eB x13)], [rO r13]))
    (h14 : Ev tab G0 n_code_Read [.sl true (eB x13)] [] = some ([.agg [i64 t.kind, .sl true (eB t.key), .sl true (eB t.value), .sl true (eB t.digest), .sl true (eT t.kids)], .s .nilIface], []))
    (h15 : Ev tab G0 n_entry_reader_end [.ptr 0 0] (inQ ⟨r13, false⟩) = some ([errA 3], inQ ⟨r13, false⟩)) :
    Ev tab G0 n_entry_Read [.sl true (eB b)] [] = some ([avMsg MG.no, errA 3], []) := by
  rw [avMsg_no]
  refine Ev_run t_entry_Read rfl rfl ?_
  simp (maxSteps := 1000000) (disch := first | omega | (simp only [lens, List.length_map]; omega)) only [go_sem, ↓reduceIte, Nat.reduceSub, Nat.reduceAdd, Nat.reduceMul, Nat.reduceLeDiff, Nat.reduceLT, Nat.reduceEqDiff, Nat.reduceBEq, Int.reduceLE, Int.reduceLT, Int.reduceEq, Int.reduceNeg, Int.reduceAdd, Int.reduceSub, Int.reduceMul, Int.reduceToNat, i_entry_Read, hl, hk, h0, h1, h2, h3, h4, h5, h6, h7, h8, h9, h10, h11, h12, h13, h14, h15]
theorem Rc_true_gt_false_n_3 (b : List UInt8) (hl : ¬ 1048576 < b.length) (x1 x2 x3 x4 x5 x6 x7 : Int) (q1 q2 q3 q4 q5 q6 : Rq) (r7 : Rd) (kd : Int) (r8 : Rd) (x9 : List Ent) (q9 : Rq) (x10 : List Int) (q10 : Rq) (x11 : Int) (r11 : Rd) (x12 : List UInt8) (r12 : Rd) (x13 : List UInt8) (r13 : Rd) (t : T) (c : Int) (hk : 1 < kd)
    (h0 : Ev tab G0 n_coder_NewReader [.sl true (eB b)] [] = some ([.ptr 0 0], [rO ⟨b, false⟩]))
    (h1 : Ev tab G0 n_entry_reader_count [.ptr 0 0] [oQ 1 false, rO ⟨b, false⟩] = some ([i64 x1], inQ q1))
    (h2 : Ev tab G0 n_entry_reader_count [.ptr 0 0] (inQ q1) = some ([i64 x2], inQ q2))
    (h3 : Ev tab G0 n_entry_reader_count [.ptr 0 0] (inQ q2) = some ([i64 x3], inQ q3))
    (h4 : Ev tab G0 n_entry_reader_count [.ptr 0 0] (inQ q3) = some ([i64 x4], inQ q4))
    (h5 : Ev tab G0 n_entry_reader_count [.ptr 0 0] (inQ q4) = some ([i64 x5], inQ q5))
    (h6 : Ev tab G0 n_entry_reader_count [.ptr 0 0] (inQ q5) = some ([i64 x6], inQ q6))
    (h7 : Ev tab G0 n_entry_reader_count [.ptr 0 0] (inQ q6) = some ([i64 x7], inQ ⟨r7, true⟩))
    (h8 : Ev tab G0 n_coder_Reader_Byte [.ptr 0 0] [rO r7] = some ([u8 kd], [rO r8]))
    (h9 : Ev tab G0 n_entry_reader_entries [.ptr 0 0] (inQ ⟨r8, true⟩) = some ([.sl true (eE x9)], inQ q9))
    (h10 : Ev tab G0 n_entry_reader_members [.ptr 0 0] (inQ q9) = some ([.sl true (eI .i64 x10)], inQ q10))
    (h11 : Ev tab G0 n_entry_reader_count [.ptr 0 0] (inQ q10) = some ([i64 x11], inQ ⟨r11, false⟩))
    (h12 : Ev tab G0 n_coder_Reader_Bytes [.ptr 0 0, i64 32] [rO r11] = some ([.sl true (eB x12)], [rO r12]))
    (h13 : Ev tab G0 n_coder_Reader_Bytes [.ptr 0 0, i64 1048576] [rO r12] = some ([.sl true (eB x13)], [rO r13]))
    (h14 : Ev tab G0 n_code_Read [.sl true (eB x13)] [] = some ([.agg [i64 t.kind, .sl true (eB t.key), .sl true (eB t.value), .sl true (eB t.digest), .sl true (eT t.kids)], errA c], []))
    (h15 : Ev tab G0 n_entry_reader_end [.ptr 0 0] (inQ ⟨r13, true⟩) = some ([errA 3], inQ ⟨r13, true⟩)) :
    Ev tab G0 n_entry_Read [.sl true (eB b)] [] = some ([avMsg MG.no, errA 3], []) := by
  rw [avMsg_no]
  refine Ev_run t_entry_Read rfl rfl ?_
  simp (maxSteps := 1000000) (disch := first | omega | (simp only [lens, List.length_map]; omega)) only [go_sem, ↓reduceIte, Nat.reduceSub, Nat.reduceAdd, Nat.reduceMul, Nat.reduceLeDiff, Nat.reduceLT, Nat.reduceEqDiff, Nat.reduceBEq, Int.reduceLE, Int.reduceLT, Int.reduceEq, Int.reduceNeg, Int.reduceAdd, Int.reduceSub, Int.reduceMul, Int.reduceToNat, i_entry_Read, hl, hk, h0, h1, h2, h3, h4, h5, h6, h7, h8, h9, h10, h11, h12, h13, h14, h15]
theorem Rc_true_gt_true_0_3 (b : List UInt8) (hl : ¬ 1048576 < b.length) (x1 x2 x3 x4 x5 x6 x7 : Int) (q1 q2 q3 q4 q5 q6 : Rq) (r7 : Rd) (kd : Int) (r8 : Rd) (x9 : List Ent) (q9 : Rq) (x10 : List Int) (q10 : Rq) (x11 : Int) (r11 : Rd) (x12 : List UInt8) (r12 : Rd) (x13 : List UInt8) (r13 : Rd) (t : T) (hk : 1 < kd)
    (h0 : Ev tab G0 n_coder_NewReader [.sl true (eB b)] [] = some ([.ptr 0 0], [rO ⟨b, false⟩]))
    (h1 : Ev tab G0 n_entry_reader_count [.ptr 0 0] [oQ 1 false, rO ⟨b, false⟩] = some ([i64 x1], inQ q1))
    (h2 : Ev tab G0 n_entry_reader_count [.ptr 0 0] (inQ q1) = some ([i64 x2], inQ q2))
    (h3 : Ev tab G0 n_entry_reader_count [.ptr 0 0] (inQ q2) = some ([i64 x3], inQ q3))
    (h4 : Ev tab G0 n_entry_reader_count [.ptr 0 0] (inQ q3) = some ([i64 x4], inQ q4))
    (h5 : Ev tab G0 n_entry_reader_count [.ptr 0 0] (inQ q4) = some ([i64 x5], inQ q5))
    (h6 : Ev tab G0 n_entry_reader_count [.ptr 0 0] (inQ q5) = some ([i64 x6], inQ q6))
    (h7 : Ev tab G0 n_entry_reader_count [.ptr 0 0] (inQ q6) = some ([i64 x7], inQ ⟨r7, true⟩))
    (h8 : Ev tab G0 n_coder_Reader_Byte [.ptr 0 0] [rO r7] = some ([u8 kd], [rO r8]))
    (h9 : Ev tab G0 n_entry_reader_entries [.ptr 0 0] (inQ ⟨r8, true⟩) = some ([.sl true (eE x9)], inQ q9))
    (h10 : Ev tab G0 n_entry_reader_members [.ptr 0 0] (inQ q9) = some ([.sl true (eI .i64 x10)], inQ q10))
    (h11 : Ev tab G0 n_entry_reader_count [.ptr 0 0] (inQ q10) = some ([i64 x11], inQ ⟨r11, true⟩))
    (h12 : Ev tab G0 n_coder_Reader_Bytes [.ptr 0 0, i64 32] [rO r11] = some ([.sl true (eB x12)], [rO r12]))
    (h13 : Ev tab G0 n_coder_Reader_Bytes [.ptr 0 0, i64 1048576] [rO r12] = some ([.sl true (eB x13)], [rO r13]))
    (h14 : Ev tab G0 n_code_Read [.sl true (eB x13)] [] = some ([.agg [i64 t.kind, .sl true (eB t.key), .sl true (eB t.value), .sl true (eB t.digest), .sl true (eT t.kids)], .s .nilIface], []))
    (h15 : Ev tab G0 n_entry_reader_end [.ptr 0 0] (inQ ⟨r13, true⟩) = some ([errA 3], inQ ⟨r13, true⟩)) :
    Ev tab G0 n_entry_Read [.sl true (eB b)] [] = some ([avMsg MG.no, errA 3], []) := by
  rw [avMsg_no]
  refine Ev_run t_entry_Read rfl rfl ?_
  simp (maxSteps := 1000000) (disch := first | omega | (simp only [lens, List.length_map]; omega)) only [go_sem, ↓reduceIte, Nat.reduceSub, Nat.reduceAdd, Nat.reduceMul, Nat.reduceLeDiff, Nat.reduceLT, Nat.reduceEqDiff, Nat.reduceBEq, Int.reduceLE, Int.reduceLT, Int.reduceEq, Int.reduceNeg, Int.reduceAdd, Int.reduceSub, Int.reduceMul, Int.reduceToNat, i_entry_Read, hl, hk, h0, h1, h2, h3, h4, h5, h6, h7, h8, h9, h10, h11, h12, h13, h14, h15]
theorem Rc_true_gt_true_n_3 (b : List UInt8) (hl : ¬ 1048576 < b.length) (x1 x2 x3 x4 x5 x6 x7 : Int) (q1 q2 q3 q4 q5 q6 : Rq) (r7 : Rd) (kd : Int) (r8 : Rd) (x9 : List Ent) (q9 : Rq) (x10 : List Int) (q10 : Rq) (x11 : Int) (r11 : Rd) (x12 : List UInt8) (r12 : Rd) (x13 : List UInt8) (r13 : Rd) (t : T) (c : Int) (hk : 1 < kd)
    (h0 : Ev tab G0 n_coder_NewReader [.sl true (eB b)] [] = some ([.ptr 0 0], [rO ⟨b, false⟩]))
    (h1 : Ev tab G0 n_entry_reader_count [.ptr 0 0] [oQ 1 false, rO ⟨b, false⟩] = some ([i64 x1], inQ q1))
    (h2 : Ev tab G0 n_entry_reader_count [.ptr 0 0] (inQ q1) = some ([i64 x2], inQ q2))
    (h3 : Ev tab G0 n_entry_reader_count [.ptr 0 0] (inQ q2) = some ([i64 x3], inQ q3))
    (h4 : Ev tab G0 n_entry_reader_count [.ptr 0 0] (inQ q3) = some ([i64 x4], inQ q4))
    (h5 : Ev tab G0 n_entry_reader_count [.ptr 0 0] (inQ q4) = some ([i64 x5], inQ q5))
    (h6 : Ev tab G0 n_entry_reader_count [.ptr 0 0] (inQ q5) = some ([i64 x6], inQ q6))
    (h7 : Ev tab G0 n_entry_reader_count [.ptr 0 0] (inQ q6) = some ([i64 x7], inQ ⟨r7, true⟩))
    (h8 : Ev tab G0 n_coder_Reader_Byte [.ptr 0 0] [rO r7] = some ([u8 kd], [rO r8]))
    (h9 : Ev tab G0 n_entry_reader_entries [.ptr 0 0] (inQ ⟨r8, true⟩) = some ([.sl true (eE x9)], inQ q9))
    (h10 : Ev tab G0 n_entry_reader_members [.ptr 0 0] (inQ q9) = some ([.sl true (eI .i64 x10)], inQ q10))
    (h11 : Ev tab G0 n_entry_reader_count [.ptr 0 0] (inQ q10) = some ([i64 x11], inQ ⟨r11, true⟩))
    (h12 : Ev tab G0 n_coder_Reader_Bytes [.ptr 0 0, i64 32] [rO r11] = some ([.sl true (eB x12)], [rO r12]))
    (h13 : Ev tab G0 n_coder_Reader_Bytes [.ptr 0 0, i64 1048576] [rO r12] = some ([.sl true (eB x13)], [rO r13]))
    (h14 : Ev tab G0 n_code_Read [.sl true (eB x13)] [] = some ([.agg [i64 t.kind, .sl true (eB t.key), .sl true (eB t.value), .sl true (eB t.digest), .sl true (eT t.kids)], errA c], []))
    (h15 : Ev tab G0 n_entry_reader_end [.ptr 0 0] (inQ ⟨r13, true⟩) = some ([errA 3], inQ ⟨r13, true⟩)) :
    Ev tab G0 n_entry_Read [.sl true (eB b)] [] = some ([avMsg MG.no, errA 3], []) := by
  rw [avMsg_no]
  refine Ev_run t_entry_Read rfl rfl ?_
  simp (maxSteps := 1000000) (disch := first | omega | (simp only [lens, List.length_map]; omega)) only [go_sem, ↓reduceIte, Nat.reduceSub, Nat.reduceAdd, Nat.reduceMul, Nat.reduceLeDiff, Nat.reduceLT, Nat.reduceEqDiff, Nat.reduceBEq, Int.reduceLE, Int.reduceLT, Int.reduceEq, Int.reduceNeg, Int.reduceAdd, Int.reduceSub, Int.reduceMul, Int.reduceToNat, i_entry_Read, hl, hk, h0, h1, h2, h3, h4, h5, h6, h7, h8, h9, h10, h11, h12, h13, h14, h15]

end Go.Proofs.Ytkfaahjcncpmhaa
