/-
  Messages out of bytes: the document's reader.
-/
import Derived.Test.YtkfaahjcncpmhaaLRdr9
set_option linter.unusedSimpArgs false
set_option linter.unusedVariables false
set_option maxRecDepth 200000
set_option maxHeartbeats 4000000
namespace Go.Proofs.Ytkfaahjcncpmhaa
open Go.Ev

theorem Fc_lt_0_0 (b : List UInt8) (hl : ¬ 1048576 < b.length) (x1 x2 x3 x4 x5 x6 x7 : Int) (w1 w2 w3 w4 w5 w6 w7 : Rf) (kd : Int) (w8 : Rf) (x9 : List Ent) (w9 : Rf) (x10 : List Int) (w10 : Rf) (x11 : Int) (w11 : Rf) (x12 : List UInt8) (w12 : Rf) (x13 : List UInt8) (w13 : Rf) (t : T) (hk : ¬ 1 < kd)
    (h1 : Ev tab G0 n_ref14_count [.ptr 0 0] [.var [.sl true (eB b), i64 0, bo false]] = some ([i64 x1], [fO w1]))
    (h2 : Ev tab G0 n_ref14_count [.ptr 0 0] [fO w1] = some ([i64 x2], [fO w2]))
    (h3 : Ev tab G0 n_ref14_count [.ptr 0 0] [fO w2] = some ([i64 x3], [fO w3]))
    (h4 : Ev tab G0 n_ref14_count [.ptr 0 0] [fO w3] = some ([i64 x4], [fO w4]))
    (h5 : Ev tab G0 n_ref14_count [.ptr 0 0] [fO w4] = some ([i64 x5], [fO w5]))
    (h6 : Ev tab G0 n_ref14_count [.ptr 0 0] [fO w5] = some ([i64 x6], [fO w6]))
    (h7 : Ev tab G0 n_ref14_count [.ptr 0 0] [fO w6] = some ([i64 x7], [fO w7]))
    (h8 : Ev tab G0 n_ref02_Reader_Byte [.ptr 0 0] [fO w7] = some ([u8 kd], [fO w8]))
    (h9 : Ev tab G0 n_ref14_entries [.ptr 0 0] [.var [.sl true (eB w8.B), i64 w8.p, bo (w8.bad)]] = some ([.sl true (eE x9)], [fO w9]))
    (h10 : Ev tab G0 n_ref14_members [.ptr 0 0] [fO w9] = some ([.sl true (eI .i64 x10)], [fO w10]))
    (h11 : Ev tab G0 n_ref14_count [.ptr 0 0] [fO w10] = some ([i64 x11], [fO w11]))
    (h12 : Ev tab G0 n_ref02_Reader_Bytes [.ptr 0 0, i64 32] [fO w11] = some ([.sl true (eB x12)], [fO w12]))
    (h13 : Ev tab G0 n_ref02_Reader_Bytes [.ptr 0 0, i64 1048576] [fO w12] = some ([.sl true (eB x13)], [fO w13]))
    (h14 : Ev tab G0 n_ref10_Read [.sl true (eB x13)] [] = some ([.agg [i64 t.kind, .sl true (eB t.key), .sl true (eB t.value), .sl true (eB t.digest), .sl true (eT t.kids)], i64 0], []))
    (h15 : Ev tab G0 n_ref02_Reader_End [.ptr 0 0] [.var [.sl true (eB w13.B), i64 w13.p, bo (w13.bad)]] = some ([i64 0], [.var [.sl true (eB w13.B), i64 w13.p, bo (w13.bad)]])) :
    Ev tab G0 n_ref14_Read [.sl true (eB b)] [] = some ([avMsg ⟨x1, x2, x3, x4, x5, x6, x7, decide (kd = 1), x9, x10, x11, x12, t⟩, i64 0], []) := by
  rw [avMsg_mk]
  obtain ⟨B1, p1, b1⟩ := w1
  obtain ⟨B2, p2, b2⟩ := w2
  obtain ⟨B3, p3, b3⟩ := w3
  obtain ⟨B4, p4, b4⟩ := w4
  obtain ⟨B5, p5, b5⟩ := w5
  obtain ⟨B6, p6, b6⟩ := w6
  obtain ⟨B7, p7, b7⟩ := w7
  obtain ⟨B8, p8, b8⟩ := w8
  obtain ⟨B9, p9, b9⟩ := w9
  obtain ⟨B10, p10, b10⟩ := w10
  obtain ⟨B11, p11, b11⟩ := w11
  obtain ⟨B12, p12, b12⟩ := w12
  obtain ⟨B13, p13, b13⟩ := w13
  simp only at *
  refine Ev_run t_ref14_Read rfl rfl ?_
  simp (maxSteps := 1000000) (disch := first | omega | (simp only [lens, List.length_map]; omega)) only [go_sem, ↓reduceIte, Nat.reduceSub, Nat.reduceAdd, Nat.reduceMul, Nat.reduceLeDiff, Nat.reduceLT, Nat.reduceEqDiff, Nat.reduceBEq, Int.reduceLE, Int.reduceLT, Int.reduceEq, Int.reduceNeg, Int.reduceAdd, Int.reduceSub, Int.reduceMul, Int.reduceToNat, i_ref14_Read, hl, hk, h1, h2, h3, h4, h5, h6, h7, h8, h9, h10, h11, h12, h13, h14, h15]
theorem Fc_lt_0_3 (b : List UInt8) (hl : ¬ 1048576 < b.length) (x1 x2 x3 x4 x5 x6 x7 : Int) (w1 w2 w3 w4 w5 w6 w7 : Rf) (kd : Int) (w8 : Rf) (x9 : List Ent) (w9 : Rf) (x10 : List Int) (w10 : Rf) (x11 : Int) (w11 : Rf) (x12 : List UInt8) (w12 : Rf) (x13 : List UInt8) (w13 : Rf) (t : T) (hk : ¬ 1 < kd)
    (h1 : Ev tab G0 n_ref14_count [.ptr 0 0] [.var [.sl true (eB b), i64 0, bo false]] = some ([i64 x1], [fO w1]))
    (h2 : Ev tab G0 n_ref14_count [.ptr 0 0] [fO w1] = some ([i64 x2], [fO w2]))
    (h3 : Ev tab G0 n_ref14_count [.ptr 0 0] [fO w2] = some ([i64 x3], [fO w3]))
    (h4 : Ev tab G0 n_ref14_count [.ptr 0 0] [fO w3] = some ([i64 x4], [fO w4]))
    (h5 : Ev tab G0 n_ref14_count [.ptr 0 0] [fO w4] = some ([i64 x5], [fO w5]))
    (h6 : Ev tab G0 n_ref14_count [.ptr 0 0] [fO w5] = some ([i64 x6], [fO w6]))
    (h7 : Ev tab G0 n_ref14_count [.ptr 0 0] [fO w6] = some ([i64 x7], [fO w7]))
    (h8 : Ev tab G0 n_ref02_Reader_Byte [.ptr 0 0] [fO w7] = some ([u8 kd], [fO w8]))
    (h9 : Ev tab G0 n_ref14_entries [.ptr 0 0] [.var [.sl true (eB w8.B), i64 w8.p, bo (w8.bad)]] = some ([.sl true (eE x9)], [fO w9]))
    (h10 : Ev tab G0 n_ref14_members [.ptr 0 0] [fO w9] = some ([.sl true (eI .i64 x10)], [fO w10]))
    (h11 : Ev tab G0 n_ref14_count [.ptr 0 0] [fO w10] = some ([i64 x11], [fO w11]))
    (h12 : Ev tab G0 n_ref02_Reader_Bytes [.ptr 0 0, i64 32] [fO w11] = some ([.sl true (eB x12)], [fO w12]))
    (h13 : Ev tab G0 n_ref02_Reader_Bytes [.ptr 0 0, i64 1048576] [fO w12] = some ([.sl true (eB x13)], [fO w13]))
    (h14 : Ev tab G0 n_ref10_Read [.sl true (eB x13)] [] = some ([.agg [i64 t.kind, .sl true (eB t.key), .sl true (eB t.value), .sl true (eB t.digest), .sl true (eT t.kids)], i64 0], []))
    (h15 : Ev tab G0 n_ref02_Reader_End [.ptr 0 0] [.var [.sl true (eB w13.B), i64 w13.p, bo (w13.bad)]] = some ([i64 3], [.var [.sl true (eB w13.B), i64 w13.p, bo (w13.bad)]])) :
    Ev tab G0 n_ref14_Read [.sl true (eB b)] [] = some ([avMsg MG.no, i64 3], []) := by
  rw [avMsg_no]
  obtain ⟨B1, p1, b1⟩ := w1
  obtain ⟨B2, p2, b2⟩ := w2
  obtain ⟨B3, p3, b3⟩ := w3
  obtain ⟨B4, p4, b4⟩ := w4
  obtain ⟨B5, p5, b5⟩ := w5
  obtain ⟨B6, p6, b6⟩ := w6
  obtain ⟨B7, p7, b7⟩ := w7
  obtain ⟨B8, p8, b8⟩ := w8
  obtain ⟨B9, p9, b9⟩ := w9
  obtain ⟨B10, p10, b10⟩ := w10
  obtain ⟨B11, p11, b11⟩ := w11
  obtain ⟨B12, p12, b12⟩ := w12
  obtain ⟨B13, p13, b13⟩ := w13
  simp only at *
  refine Ev_run t_ref14_Read rfl rfl ?_
  simp (maxSteps := 1000000) (disch := first | omega | (simp only [lens, List.length_map]; omega)) only [go_sem, ↓reduceIte, Nat.reduceSub, Nat.reduceAdd, Nat.reduceMul, Nat.reduceLeDiff, Nat.reduceLT, Nat.reduceEqDiff, Nat.reduceBEq, Int.reduceLE, Int.reduceLT, Int.reduceEq, Int.reduceNeg, Int.reduceAdd, Int.reduceSub, Int.reduceMul, Int.reduceToNat, i_ref14_Read, hl, hk, h1, h2, h3, h4, h5, h6, h7, h8, h9, h10, h11, h12, h13, h14, h15]
theorem Fc_lt_0_4 (b : List UInt8) (hl : ¬ 1048576 < b.length) (x1 x2 x3 x4 x5 x6 x7 : Int) (w1 w2 w3 w4 w5 w6 w7 : Rf) (kd : Int) (w8 : Rf) (x9 : List Ent) (w9 : Rf) (x10 : List Int) (w10 : Rf) (x11 : Int) (w11 : Rf) (x12 : List UInt8) (w12 : Rf) (x13 : List UInt8) (w13 : Rf) (t : T) (hk : ¬ 1 < kd)
    (h1 : Ev tab G0 n_ref14_count [.ptr 0 0] [.var [.sl true (eB b), i64 0, bo false]] = some ([i64 x1], [fO w1]))
    (h2 : Ev tab G0 n_ref14_count [.ptr 0 0] [fO w1] = some ([i64 x2], [fO w2]))
    (h3 : Ev tab G0 n_ref14_count [.ptr 0 0] [fO w2] = some ([i64 x3], [fO w3]))
    (h4 : Ev tab G0 n_ref14_count [.ptr 0 0] [fO w3] = some ([i64 x4], [fO w4]))
    (h5 : Ev tab G0 n_ref14_count [.ptr 0 0] [fO w4] = some ([i64 x5], [fO w5]))
    (h6 : Ev tab G0 n_ref14_count [.ptr 0 0] [fO w5] = some ([i64 x6], [fO w6]))
    (h7 : Ev tab G0 n_ref14_count [.ptr 0 0] [fO w6] = some ([i64 x7], [fO w7]))
    (h8 : Ev tab G0 n_ref02_Reader_Byte [.ptr 0 0] [fO w7] = some ([u8 kd], [fO w8]))
    (h9 : Ev tab G0 n_ref14_entries [.ptr 0 0] [.var [.sl true (eB w8.B), i64 w8.p, bo (w8.bad)]] = some ([.sl true (eE x9)], [fO w9]))
    (h10 : Ev tab G0 n_ref14_members [.ptr 0 0] [fO w9] = some ([.sl true (eI .i64 x10)], [fO w10]))
    (h11 : Ev tab G0 n_ref14_count [.ptr 0 0] [fO w10] = some ([i64 x11], [fO w11]))
    (h12 : Ev tab G0 n_ref02_Reader_Bytes [.ptr 0 0, i64 32] [fO w11] = some ([.sl true (eB x12)], [fO w12]))
    (h13 : Ev tab G0 n_ref02_Reader_Bytes [.ptr 0 0, i64 1048576] [fO w12] = some ([.sl true (eB x13)], [fO w13]))
    (h14 : Ev tab G0 n_ref10_Read [.sl true (eB x13)] [] = some ([.agg [i64 t.kind, .sl true (eB t.key), .sl true (eB t.value), .sl true (eB t.digest), .sl true (eT t.kids)], i64 0], []))
    (h15 : Ev tab G0 n_ref02_Reader_End [.ptr 0 0] [.var [.sl true (eB w13.B), i64 w13.p, bo (w13.bad)]] = some ([i64 4], [.var [.sl true (eB w13.B), i64 w13.p, bo (w13.bad)]])) :
    Ev tab G0 n_ref14_Read [.sl true (eB b)] [] = some ([avMsg MG.no, i64 4], []) := by
  rw [avMsg_no]
  obtain ⟨B1, p1, b1⟩ := w1
  obtain ⟨B2, p2, b2⟩ := w2
  obtain ⟨B3, p3, b3⟩ := w3
  obtain ⟨B4, p4, b4⟩ := w4
  obtain ⟨B5, p5, b5⟩ := w5
  obtain ⟨B6, p6, b6⟩ := w6
  obtain ⟨B7, p7, b7⟩ := w7
  obtain ⟨B8, p8, b8⟩ := w8
  obtain ⟨B9, p9, b9⟩ := w9
  obtain ⟨B10, p10, b10⟩ := w10
  obtain ⟨B11, p11, b11⟩ := w11
  obtain ⟨B12, p12, b12⟩ := w12
  obtain ⟨B13, p13, b13⟩ := w13
  simp only at *
  refine Ev_run t_ref14_Read rfl rfl ?_
  simp (maxSteps := 1000000) (disch := first | omega | (simp only [lens, List.length_map]; omega)) only [go_sem, ↓reduceIte, Nat.reduceSub, Nat.reduceAdd, Nat.reduceMul, Nat.reduceLeDiff, Nat.reduceLT, Nat.reduceEqDiff, Nat.reduceBEq, Int.reduceLE, Int.reduceLT, Int.reduceEq, Int.reduceNeg, Int.reduceAdd, Int.reduceSub, Int.reduceMul, Int.reduceToNat, i_ref14_Read, hl, hk, h1, h2, h3, h4, h5, h6, h7, h8, h9, h10, h11, h12, h13, h14, h15]
theorem Fc_lt_n_3 (b : List UInt8) (hl : ¬ 1048576 < b.length) (x1 x2 x3 x4 x5 x6 x7 : Int) (w1 w2 w3 w4 w5 w6 w7 : Rf) (kd : Int) (w8 : Rf) (x9 : List Ent) (w9 : Rf) (x10 : List Int) (w10 : Rf) (x11 : Int) (w11 : Rf) (x12 : List UInt8) (w12 : Rf) (x13 : List UInt8) (w13 : Rf) (t : T) (c : Int) (hc : ¬ c = 0) (hk : ¬ 1 < kd)
    (h1 : Ev tab G0 n_ref14_count [.ptr 0 0] [.var [.sl true (eB b), i64 0, bo false]] = some ([i64 x1], [fO w1]))
    (h2 : Ev tab G0 n_ref14_count [.ptr 0 0] [fO w1] = some ([i64 x2], [fO w2]))
    (h3 : Ev tab G0 n_ref14_count [.ptr 0 0] [fO w2] = some ([i64 x3], [fO w3]))
    (h4 : Ev tab G0 n_ref14_count [.ptr 0 0] [fO w3] = some ([i64 x4], [fO w4]))
    (h5 : Ev tab G0 n_ref14_count [.ptr 0 0] [fO w4] = some ([i64 x5], [fO w5]))
    (h6 : Ev tab G0 n_ref14_count [.ptr 0 0] [fO w5] = some ([i64 x6], [fO w6]))
    (h7 : Ev tab G0 n_ref14_count [.ptr 0 0] [fO w6] = some ([i64 x7], [fO w7]))
    (h8 : Ev tab G0 n_ref02_Reader_Byte [.ptr 0 0] [fO w7] = some ([u8 kd], [fO w8]))
    (h9 : Ev tab G0 n_ref14_entries [.ptr 0 0] [.var [.sl true (eB w8.B), i64 w8.p, bo (w8.bad)]] = some ([.sl true (eE x9)], [fO w9]))
    (h10 : Ev tab G0 n_ref14_members [.ptr 0 0] [fO w9] = some ([.sl true (eI .i64 x10)], [fO w10]))
    (h11 : Ev tab G0 n_ref14_count [.ptr 0 0] [fO w10] = some ([i64 x11], [fO w11]))
    (h12 : Ev tab G0 n_ref02_Reader_Bytes [.ptr 0 0, i64 32] [fO w11] = some ([.sl true (eB x12)], [fO w12]))
    (h13 : Ev tab G0 n_ref02_Reader_Bytes [.ptr 0 0, i64 1048576] [fO w12] = some ([.sl true (eB x13)], [fO w13]))
    (h14 : Ev tab G0 n_ref10_Read [.sl true (eB x13)] [] = some ([.agg [i64 t.kind, .sl true (eB t.key), .sl true (eB t.value), .sl true (eB t.digest), .sl true (eT t.kids)], i64 c], []))
    (h15 : Ev tab G0 n_ref02_Reader_End [.ptr 0 0] [.var [.sl true (eB w13.B), i64 w13.p, bo (true)]] = some ([i64 3], [.var [.sl true (eB w13.B), i64 w13.p, bo (true)]])) :
    Ev tab G0 n_ref14_Read [.sl true (eB b)] [] = some ([avMsg MG.no, i64 3], []) := by
  rw [avMsg_no]
  obtain ⟨B1, p1, b1⟩ := w1
  obtain ⟨B2, p2, b2⟩ := w2
  obtain ⟨B3, p3, b3⟩ := w3
  obtain ⟨B4, p4, b4⟩ := w4
  obtain ⟨B5, p5, b5⟩ := w5
  obtain ⟨B6, p6, b6⟩ := w6
  obtain ⟨B7, p7, b7⟩ := w7
  obtain ⟨B8, p8, b8⟩ := w8
  obtain ⟨B9, p9, b9⟩ := w9
  obtain ⟨B10, p10, b10⟩ := w10
  obtain ⟨B11, p11, b11⟩ := w11
  obtain ⟨B12, p12, b12⟩ := w12
  obtain ⟨B13, p13, b13⟩ := w13
  simp only at *
  refine Ev_run t_ref14_Read rfl rfl ?_
  simp (maxSteps := 1000000) (disch := first | omega | (simp only [lens, List.length_map]; omega)) only [go_sem, ↓reduceIte, Nat.reduceSub, Nat.reduceAdd, Nat.reduceMul, Nat.reduceLeDiff, Nat.reduceLT, Nat.reduceEqDiff, Nat.reduceBEq, Int.reduceLE, Int.reduceLT, Int.reduceEq, Int.reduceNeg, Int.reduceAdd, Int.reduceSub, Int.reduceMul, Int.reduceToNat, i_ref14_Read, hl, hk, hc, h1, h2, h3, h4, h5, h6, h7, h8, h9, h10, h11, h12, h13, h14, h15]
theorem Fc_gt_0_3 (b : List UInt8) (hl : ¬ 1048576 < b.length) (x1 x2 x3 x4 x5 x6 x7 : Int) (w1 w2 w3 w4 w5 w6 w7 : Rf) (kd : Int) (w8 : Rf) (x9 : List Ent) (w9 : Rf) (x10 : List Int) (w10 : Rf) (x11 : Int) (w11 : Rf) (x12 : List UInt8) (w12 : Rf) (x13 : List UInt8) (w13 : Rf) (t : T) (hk : 1 < kd)
    (h1 : Ev tab G0 n_ref14_count [.ptr 0 0] [.var [.sl true (eB b), i64 0, bo false]] = some ([i64 x1], [fO w1]))
    (h2 : Ev tab G0 n_ref14_count [.ptr 0 0] [fO w1] = some ([i64 x2], [fO w2]))
    (h3 : Ev tab G0 n_ref14_count [.ptr 0 0] [fO w2] = some ([i64 x3], [fO w3]))
    (h4 : Ev tab G0 n_ref14_count [.ptr 0 0] [fO w3] = some ([i64 x4], [fO w4]))
    (h5 : Ev tab G0 n_ref14_count [.ptr 0 0] [fO w4] = some ([i64 x5], [fO w5]))
    (h6 : Ev tab G0 n_ref14_count [.ptr 0 0] [fO w5] = some ([i64 x6], [fO w6]))
    (h7 : Ev tab G0 n_ref14_count [.ptr 0 0] [fO w6] = some ([i64 x7], [fO w7]))
    (h8 : Ev tab G0 n_ref02_Reader_Byte [.ptr 0 0] [fO w7] = some ([u8 kd], [fO w8]))
    (h9 : Ev tab G0 n_ref14_entries [.ptr 0 0] [.var [.sl true (eB w8.B), i64 w8.p, bo (true)]] = some ([.sl true (eE x9)], [fO w9]))
    (h10 : Ev tab G0 n_ref14_members [.ptr 0 0] [fO w9] = some ([.sl true (eI .i64 x10)], [fO w10]))
    (h11 : Ev tab G0 n_ref14_count [.ptr 0 0] [fO w10] = some ([i64 x11], [fO w11]))
    (h12 : Ev tab G0 n_ref02_Reader_Bytes [.ptr 0 0, i64 32] [fO w11] = some ([.sl true (eB x12)], [fO w12]))
    (h13 : Ev tab G0 n_ref02_Reader_Bytes [.ptr 0 0, i64 1048576] [fO w12] = some ([.sl true (eB x13)], [fO w13]))
    (h14 : Ev tab G0 n_ref10_Read [.sl true (eB x13)] [] = some ([.agg [i64 t.kind, .sl true (eB t.key), .sl true (eB t.value), .sl true (eB t.digest), .sl true (eT t.kids)], i64 0], []))
    (h15 : Ev tab G0 n_ref02_Reader_End [.ptr 0 0] [.var [.sl true (eB w13.B), i64 w13.p, bo (w13.bad)]] = some ([i64 3], [.var [.sl true (eB w13.B), i64 w13.p, bo (w13.bad)]])) :
    Ev tab G0 n_ref14_Read [.sl true (eB b)] [] = some ([avMsg MG.no, i64 3], []) := by
  rw [avMsg_no]
  obtain ⟨B1, p1, b1⟩ := w1
  obtain ⟨B2, p2, b2⟩ := w2
  obtain ⟨B3, p3, b3⟩ := w3
  obtain ⟨B4, p4, b4⟩ := w4
  obtain ⟨B5, p5, b5⟩ := w5
  obtain ⟨B6, p6, b6⟩ := w6
  obtain ⟨B7, p7, b7⟩ := w7
  obtain ⟨B8, p8, b8⟩ := w8
  obtain ⟨B9, p9, b9⟩ := w9
  obtain ⟨B10, p10, b10⟩ := w10
  obtain ⟨B11, p11, b11⟩ := w11
  obtain ⟨B12, p12, b12⟩ := w12
  obtain ⟨B13, p13, b13⟩ := w13
  simp only at *
  refine Ev_run t_ref14_Read rfl rfl ?_
  simp (maxSteps := 1000000) (disch := first | omega | (simp only [lens, List.length_map]; omega)) only [go_sem, ↓reduceIte, Nat.reduceSub, Nat.reduceAdd, Nat.reduceMul, Nat.reduceLeDiff, Nat.reduceLT, Nat.reduceEqDiff, Nat.reduceBEq, Int.reduceLE, Int.reduceLT, Int.reduceEq, Int.reduceNeg, Int.reduceAdd, Int.reduceSub, Int.reduceMul, Int.reduceToNat, i_ref14_Read, hl, hk, h1, h2, h3, h4, h5, h6, h7, h8, h9, h10, h11, h12, h13, h14, h15]
theorem Fc_gt_n_3 (b : List UInt8) (hl : ¬ 1048576 < b.length) (x1 x2 x3 x4 x5 x6 x7 : Int) (w1 w2 w3 w4 w5 w6 w7 : Rf) (kd : Int) (w8 : Rf) (x9 : List Ent) (w9 : Rf) (x10 : List Int) (w10 : Rf) (x11 : Int) (w11 : Rf) (x12 : List UInt8) (w12 : Rf) (x13 : List UInt8) (w13 : Rf) (t : T) (c : Int) (hc : ¬ c = 0) (hk : 1 < kd)
    (h1 : Ev tab G0 n_ref14_count [.ptr 0 0] [.var [.sl true (eB b), i64 0, bo false]] = some ([i64 x1], [fO w1]))
    (h2 : Ev tab G0 n_ref14_count [.ptr 0 0] [fO w1] = some ([i64 x2], [fO w2]))
    (h3 : Ev tab G0 n_ref14_count [.ptr 0 0] [fO w2] = some ([i64 x3], [fO w3]))
    (h4 : Ev tab G0 n_ref14_count [.ptr 0 0] [fO w3] = some ([i64 x4], [fO w4]))
    (h5 : Ev tab G0 n_ref14_count [.ptr 0 0] [fO w4] = some ([i64 x5], [fO w5]))
    (h6 : Ev tab G0 n_ref14_count [.ptr 0 0] [fO w5] = some ([i64 x6], [fO w6]))
    (h7 : Ev tab G0 n_ref14_count [.ptr 0 0] [fO w6] = some ([i64 x7], [fO w7]))
    (h8 : Ev tab G0 n_ref02_Reader_Byte [.ptr 0 0] [fO w7] = some ([u8 kd], [fO w8]))
    (h9 : Ev tab G0 n_ref14_entries [.ptr 0 0] [.var [.sl true (eB w8.B), i64 w8.p, bo (true)]] = some ([.sl true (eE x9)], [fO w9]))
    (h10 : Ev tab G0 n_ref14_members [.ptr 0 0] [fO w9] = some ([.sl true (eI .i64 x10)], [fO w10]))
    (h11 : Ev tab G0 n_ref14_count [.ptr 0 0] [fO w10] = some ([i64 x11], [fO w11]))
    (h12 : Ev tab G0 n_ref02_Reader_Bytes [.ptr 0 0, i64 32] [fO w11] = some ([.sl true (eB x12)], [fO w12]))
    (h13 : Ev tab G0 n_ref02_Reader_Bytes [.ptr 0 0, i64 1048576] [fO w12] = some ([.sl true (eB x13)], [fO w13]))
    (h14 : Ev tab G0 n_ref10_Read [.sl true (eB x13)] [] = some ([.agg [i64 t.kind, .sl true (eB t.key), .sl true (eB t.value), .sl true (eB t.digest), .sl true (eT t.kids)], i64 c], []))
    (h15 : Ev tab G0 n_ref02_Reader_End [.ptr 0 0] [.var [.sl true (eB w13.B), i64 w13.p, bo (true)]] = some ([i64 3], [.var [.sl true (eB w13.B), i64 w13.p, bo (true)]])) :
    Ev tab G0 n_ref14_Read [.sl true (eB b)] [] = some ([avMsg MG.no, i64 3], []) := by
  rw [avMsg_no]
  obtain ⟨B1, p1, b1⟩ := w1
  obtain ⟨B2, p2, b2⟩ := w2
  obtain ⟨B3, p3, b3⟩ := w3
  obtain ⟨B4, p4, b4⟩ := w4
  obtain ⟨B5, p5, b5⟩ := w5
  obtain ⟨B6, p6, b6⟩ := w6
  obtain ⟨B7, p7, b7⟩ := w7
  obtain ⟨B8, p8, b8⟩ := w8
  obtain ⟨B9, p9, b9⟩ := w9
  obtain ⟨B10, p10, b10⟩ := w10
  obtain ⟨B11, p11, b11⟩ := w11
  obtain ⟨B12, p12, b12⟩ := w12
  obtain ⟨B13, p13, b13⟩ := w13
  simp only at *
  refine Ev_run t_ref14_Read rfl rfl ?_
  simp (maxSteps := 1000000) (disch := first | omega | (simp only [lens, List.length_map]; omega)) only [go_sem, ↓reduceIte, Nat.reduceSub, Nat.reduceAdd, Nat.reduceMul, Nat.reduceLeDiff, Nat.reduceLT, Nat.reduceEqDiff, Nat.reduceBEq, Int.reduceLE, Int.reduceLT, Int.reduceEq, Int.reduceNeg, Int.reduceAdd, Int.reduceSub, Int.reduceMul, Int.reduceToNat, i_ref14_Read, hl, hk, hc, h1, h2, h3, h4, h5, h6, h7, h8, h9, h10, h11, h12, h13, h14, h15]

end Go.Proofs.Ytkfaahjcncpmhaa
