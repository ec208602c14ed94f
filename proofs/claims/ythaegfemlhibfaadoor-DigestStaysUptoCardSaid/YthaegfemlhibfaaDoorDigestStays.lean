/-
  Bytes that are handed in stay as they are, and what was answered stays: the law of digests.
-/
import Derived.Test.YthaegfemlhibfaaDoorShaStays
import Derived.Test.YthaegfemlhibfaaDoorLDigest
import Derived.Test.YthaegfemlhibfaaDoorLCoder
set_option linter.unusedSimpArgs false
set_option linter.unusedVariables false
set_option maxRecDepth 200000
set_option maxHeartbeats 4000000
namespace Go.Proofs.YthaegfemlhibfaaDoor
open Go.Ev

theorem Concat_k (l : List (List UInt8)) (hl : l.length ≤ 1048576) (hs : 0 < sumB l ∧ sumB l ≤ 1073741824) : Ev tab G0 n_slices_Concat_sl_byte_byte [.sl true (eBs l)] [] = some ([.row 0 l.flatten.length], [.row ty_uint8 1 true false (eB l.flatten)]) := by
  have h0 := cat_loop0 l hl hs.2 l.length 0 (by omega)
  have h1 := cat_loop1 l hl hs.2 l.length 0 (by omega)
  have h2 := Grow_ev (sumB l) (by omega)
  have h3 := flat_len l
  have e1 : sumB (l.take 0) = 0 := rfl
  have e2 : (l.take 0).flatten = [] := rfl
  have e0 : ((0 : Nat) : Int) = 0 := rfl
  rw [e1] at h0
  rw [e1, e2] at h1
  try simp (maxSteps := 1000000) (disch := first | omega | (simp only [List.length_cons, List.length_nil, List.length_append, List.length_map, List.length_take, List.length_drop]; omega)) only [go_sem, ↓reduceIte, Nat.reduceSub, Nat.reduceAdd, Nat.reduceMul, Nat.reduceLeDiff, Nat.reduceLT, Nat.reduceEqDiff, Nat.reduceBEq, Int.reduceLE, Int.reduceLT, Int.reduceEq, Int.reduceNeg, Int.reduceAdd, Int.reduceSub, Int.reduceMul, Int.reduceToNat, e0] at h0
  try simp (maxSteps := 1000000) (disch := first | omega | (simp only [List.length_cons, List.length_nil, List.length_append, List.length_map, List.length_take, List.length_drop]; omega)) only [go_sem, ↓reduceIte, Nat.reduceSub, Nat.reduceAdd, Nat.reduceMul, Nat.reduceLeDiff, Nat.reduceLT, Nat.reduceEqDiff, Nat.reduceBEq, Int.reduceLE, Int.reduceLT, Int.reduceEq, Int.reduceNeg, Int.reduceAdd, Int.reduceSub, Int.reduceMul, Int.reduceToNat, e0] at h1
  try simp (maxSteps := 1000000) (disch := first | omega | (simp only [List.length_cons, List.length_nil, List.length_append, List.length_map, List.length_take, List.length_drop]; omega)) only [go_sem, ↓reduceIte, Nat.reduceSub, Nat.reduceAdd, Nat.reduceMul, Nat.reduceLeDiff, Nat.reduceLT, Nat.reduceEqDiff, Nat.reduceBEq, Int.reduceLE, Int.reduceLT, Int.reduceEq, Int.reduceNeg, Int.reduceAdd, Int.reduceSub, Int.reduceMul, Int.reduceToNat] at h2
  refine Ev_run t_slices_Concat_sl_byte_byte rfl rfl ?_
  simp (maxSteps := 1000000) (disch := first | omega | (simp only [List.length_cons, List.length_nil, List.length_append, List.length_map, List.length_take, List.length_drop]; omega)) only [go_sem, ↓reduceIte, Nat.reduceSub, Nat.reduceAdd, Nat.reduceMul, Nat.reduceLeDiff, Nat.reduceLT, Nat.reduceEqDiff, Nat.reduceBEq, Int.reduceLE, Int.reduceLT, Int.reduceEq, Int.reduceNeg, Int.reduceAdd, Int.reduceSub, Int.reduceMul, Int.reduceToNat, i_slices_Concat_sl_byte_byte, h0, h1, h2, h3]
theorem Pair_k (k v : List UInt8) (h : v.length = 4) (hk : k.length ≤ 1048576) : Ev tab G0 n_digest_Pair [i64 4, .sl true (eB k), .sl true (eB v)] [] = some ([.row 0 (pairP k v).length, .s .nilIface], [.row ty_uint8 1 true false (eB (pairP k v))]) := by
  have h1 := width_ev 4 (by omega)
  have hd : decide (1 ≤ (4 : Int) ∧ (4 : Int) ≤ 32) = true := by decide
  rw [hd] at h1
  have h2 := coder_Bytes_ev k (by omega)
  have h3 := byts_len k
  have h4 := Concat_k [[1], byts k, v] (by simp) (by simp [sumB]; omega)
  have e : [[1], byts k, v].flatten = pairP k v := by simp [pairP]
  have e1 : byt 1 = 1 := rfl
  rw [e] at h4
  refine Ev_run t_digest_Pair rfl rfl ?_
  generalize byts k = y at *
  generalize pairP k v = z at *
  simp (maxSteps := 1000000) (disch := first | omega | (simp only [List.length_cons, List.length_nil, List.length_append, List.length_map, List.length_take, List.length_drop]; omega)) only [go_sem, ↓reduceIte, Nat.reduceSub, Nat.reduceAdd, Nat.reduceMul, Nat.reduceLeDiff, Nat.reduceLT, Nat.reduceEqDiff, Nat.reduceBEq, Int.reduceLE, Int.reduceLT, Int.reduceEq, Int.reduceNeg, Int.reduceAdd, Int.reduceSub, Int.reduceMul, Int.reduceToNat, i_digest_Pair, h, h1, h2, eBs3, h4, e1]
theorem Node_k (a b c : List UInt8) (ha : a.length = 4) (hb : b.length = 4) (hc : c.length = 4) : Ev tab G0 n_digest_Node [i64 4, .sl true (eB a), .sl true (eB b), .sl true (eB c)] [] = some ([.row 0 (nodeP a b c).length, .s .nilIface], [.row ty_uint8 1 true false (eB (nodeP a b c))]) := by
  have h1 := width_ev 4 (by omega)
  have hd : decide (1 ≤ (4 : Int) ∧ (4 : Int) ≤ 32) = true := by decide
  rw [hd] at h1
  have h4 := Concat_k [[2], a, b, c] (by simp) (by simp [sumB]; omega)
  have e : [[2], a, b, c].flatten = nodeP a b c := by simp [nodeP]
  have e1 : byt 2 = 2 := rfl
  rw [e] at h4
  refine Ev_run t_digest_Node rfl rfl ?_
  generalize nodeP a b c = z at *
  simp (maxSteps := 1000000) (disch := first | omega | (simp only [List.length_cons, List.length_nil, List.length_append, List.length_map, List.length_take, List.length_drop]; omega)) only [go_sem, ↓reduceIte, Nat.reduceSub, Nat.reduceAdd, Nat.reduceMul, Nat.reduceLeDiff, Nat.reduceLT, Nat.reduceEqDiff, Nat.reduceBEq, Int.reduceLE, Int.reduceLT, Int.reduceEq, Int.reduceNeg, Int.reduceAdd, Int.reduceSub, Int.reduceMul, Int.reduceToNat, i_digest_Node, ha, hb, hc, h1, eBs4, h4, e1]
theorem Value_k (a : List UInt8) (h : a.length ≤ 1048576) : Ev tab G0 n_digest_Value [.sl true (eB a)] [] = some ([.row 0 (a.length + 1)], [.row ty_uint8 1 true false (eB (0 :: a))]) := by
  have e1 : byt 0 = 0 := rfl
  have e2 : a.length + 1 = 1 + a.length := by omega
  refine Ev_run t_digest_Value rfl rfl ?_
  simp (maxSteps := 1000000) (disch := first | omega | (simp only [List.length_cons, List.length_nil, List.length_append, List.length_map, List.length_take, List.length_drop]; omega)) only [go_sem, ↓reduceIte, Nat.reduceSub, Nat.reduceAdd, Nat.reduceMul, Nat.reduceLeDiff, Nat.reduceLT, Nat.reduceEqDiff, Nat.reduceBEq, Int.reduceLE, Int.reduceLT, Int.reduceEq, Int.reduceNeg, Int.reduceAdd, Int.reduceSub, Int.reduceMul, Int.reduceToNat, i_digest_Value, e1, e2]
theorem clone_k (l : List UInt8) (h : l.length ≤ 1048576) (hne : l ≠ []) : Ev tab G0 n_slices_Clone_sl_byte_byte [.sl true (eB l)] [] = some ([.row 0 l.length], [.row ty_uint8 1 true false (eB l)]) := by
  cases l with
  | nil => exact absurd rfl hne
  | cons x l =>
    have he : (eB (x :: l)).isEmpty = false := rfl
    refine Ev_notnil (x := e1 x) (l := eB l) t_slices_Clone_sl_byte_byte rfl rfl (evFn1_run rfl ?_)
    rw [show eB (x :: l) = e1 x :: eB l from rfl]
    simp only [List.length_cons] at h
    simp (maxSteps := 1000000) (disch := first | omega | (simp only [List.length_cons, List.length_nil, List.length_append, List.length_map, List.length_take, List.length_drop]; omega)) only [go_sem, ↓reduceIte, Nat.reduceSub, Nat.reduceAdd, Nat.reduceMul, Nat.reduceLeDiff, Nat.reduceLT, Nat.reduceEqDiff, Nat.reduceBEq, Int.reduceLE, Int.reduceLT, Int.reduceEq, Int.reduceNeg, Int.reduceAdd, Int.reduceSub, Int.reduceMul, Int.reduceToNat, i_slices_Clone_sl_byte_byte]
theorem Of_k (b : List UInt8) (hb : b.length ≤ 1048576) : Ev tab G0 n_digest_Of [i64 4, .sl true (eB b)] [] = some ([.row 0 4, .s .nilIface], [.row ty_uint8 1 true false (eB ((shaS b).take 4))]) := by
  have h1 := width_ev 4 (by omega)
  have hd : decide (1 ≤ (4 : Int) ∧ (4 : Int) ≤ 32) = true := by decide
  rw [hd] at h1
  have h2 := sha_Sum_ev b hb
  have hs := shaS_len b
  have hl : ((shaS b).take 4).length = 4 := by rw [List.length_take, hs]; rfl
  have h3 := clone_k ((shaS b).take 4) (by omega) (fun h => by rw [h] at hl; cases hl)
  rw [hl] at h3
  generalize shaS b = s at *
  refine Ev_run t_digest_Of rfl rfl ?_
  simp (maxSteps := 1000000) (disch := first | omega | (simp only [List.length_cons, List.length_nil, List.length_append, List.length_map, List.length_take, List.length_drop]; omega)) only [go_sem, ↓reduceIte, Nat.reduceSub, Nat.reduceAdd, Nat.reduceMul, Nat.reduceLeDiff, Nat.reduceLT, Nat.reduceEqDiff, Nat.reduceBEq, Int.reduceLE, Int.reduceLT, Int.reduceEq, Int.reduceNeg, Int.reduceAdd, Int.reduceSub, Int.reduceMul, Int.reduceToNat, i_digest_Of, h1, h2, h3, hs, hl]
abbrev oD4 (a b c d : UInt8) : Ev.Obj := .var [u8 a.toNat, u8 b.toNat, u8 c.toNat, u8 d.toNat]
theorem dig_loop (x0 x1 x2 x3 : UInt8) (w : List UInt8) (hw : w.length = 4) (b v d p nn : List (List C)) (st : Bool) : ∀ (n i : Nat) (o : List UInt8), n + i = o.length → o.length ≤ 1048576 → L_law03_DigestStays_0 (s_law03_DigestStays_K0 (.sl true b) (.ptr 0 0) (bo true) (.row 1 o.length) (.sl true v) (.sl true d) (.s .nilIface) (.row 4 4) (.sl true p) (.s .nilIface) (.sl true nn) (.s .nilIface) (bo st) (i64 i) [some (oD4 x0 x1 x2 x3), some (rwB o), none, none, some (rwB w), none, none, none, none, none, none]) = some (.exit 0, s_law03_DigestStays_J0 (.sl true b) (.ptr 0 0) (bo true) (.sl true v) (.sl true d) (.s .nilIface) (.row 4 4) (.sl true p) (.s .nilIface) (.sl true nn) (.s .nilIface) (bo st) [some (oD4 x0 x1 x2 x3), none, none, none, some (rwB w), none, none, none, none, none, none])
  | 0, i, o, h, hb => by
    rw [L_law03_DigestStays_0_eq]
    simp (maxSteps := 1000000) (disch := first | omega | (simp only [List.length_cons, List.length_nil, List.length_append, List.length_map, List.length_take, List.length_drop]; omega)) only [go_sem, ↓reduceIte, Nat.reduceSub, Nat.reduceAdd, Nat.reduceMul, Nat.reduceLeDiff, Nat.reduceLT, Nat.reduceEqDiff, Nat.reduceBEq, Int.reduceLE, Int.reduceLT, Int.reduceEq, Int.reduceNeg, Int.reduceAdd, Int.reduceSub, Int.reduceMul, Int.reduceToNat, i_law03_DigestStays_b0, hw]
  | n + 1, i, o, h, hb => by
    have ih := dig_loop x0 x1 x2 x3 w hw b v d p nn st n (i + 1) (o.set i (byt (((o.getD i 0).toNat : Int) + 1))) (by rw [List.length_set]; omega) (by rw [List.length_set]; omega)
    rw [List.length_set] at ih
    rw [L_law03_DigestStays_0_eq]
    generalize hd : o.getD i 0 = x at *
    have hx := x.toNat_lt
    generalize hq : o.set i (byt ((x.toNat : Int) + 1)) = q at *
    try simp (maxSteps := 1000000) (disch := first | omega | (simp only [List.length_cons, List.length_nil, List.length_append, List.length_map, List.length_take, List.length_drop]; omega)) only [go_sem, ↓reduceIte, Nat.reduceSub, Nat.reduceAdd, Nat.reduceMul, Nat.reduceLeDiff, Nat.reduceLT, Nat.reduceEqDiff, Nat.reduceBEq, Int.reduceLE, Int.reduceLT, Int.reduceEq, Int.reduceNeg, Int.reduceAdd, Int.reduceSub, Int.reduceMul, Int.reduceToNat] at ih
    simp (maxSteps := 1000000) (disch := first | omega | (simp only [List.length_cons, List.length_nil, List.length_append, List.length_map, List.length_take, List.length_drop]; omega)) only [go_sem, ↓reduceIte, Nat.reduceSub, Nat.reduceAdd, Nat.reduceMul, Nat.reduceLeDiff, Nat.reduceLT, Nat.reduceEqDiff, Nat.reduceBEq, Int.reduceLE, Int.reduceLT, Int.reduceEq, Int.reduceNeg, Int.reduceAdd, Int.reduceSub, Int.reduceMul, Int.reduceToNat, i_law03_DigestStays_b0, hw, hd, hq, ih]
theorem arr4 (l : List UInt8) (h : l.length = 4) : ∃ a b c d, l = [a, b, c, d] := by
  match l, h with
  | [a, b, c, d], _ => exact ⟨a, b, c, d, rfl⟩
theorem DigestStays_run (b b' : List UInt8) (y0 y1 y2 y3 : UInt8) (hb : b.length ≤ 1048576) (hb' : b' = if 5000 < b.length then b.take 5000 else b) : ∃ outs, Ev tab G0 n_law03_DigestStays [.sl true (eB b), .agg [u8 y0.toNat, u8 y1.toNat, u8 y2.toNat, u8 y3.toNat]] [] = some ([bo true], outs) := by
  have hl' : b'.length ≤ 5000 := by
    rw [hb']
    split
    · rw [List.length_take]; omega
    · omega
  have h0 := up03_ev
  have h1 := Value_k b' (by omega)
  have h2 := Of_k b' (by omega)
  have h3 := Pair_k b' [y0, y1, y2, y3] rfl (by omega)
  have h4 := Node_k [y0, y1, y2, y3] [y0, y1, y2, y3] [y0, y1, y2, y3] rfl rfl rfl
  have g0 := fun (b v d p nn : List (List C)) => dig_loop y0 y1 y2 y3 [y0, y1, y2, y3] rfl b v d p nn true b'.length 0 b' (by omega) (by omega)
  have e0 : ((0 : Nat) : Int) = 0 := rfl
  simp only [e0] at g0
  have q1 : (b' == b') = true := beq_self_eq_true _
  have q2 : ((0 :: b') == (0 :: b')) = true := beq_self_eq_true _
  have q3 : ((shaS b').take 4 == (shaS b').take 4) = true := beq_self_eq_true _
  have q4 : (pairP b' [y0, y1, y2, y3] == pairP b' [y0, y1, y2, y3]) = true := beq_self_eq_true _
  have q5 : (nodeP [y0, y1, y2, y3] [y0, y1, y2, y3] [y0, y1, y2, y3] == nodeP [y0, y1, y2, y3] [y0, y1, y2, y3] [y0, y1, y2, y3]) = true := beq_self_eq_true _
  have hdl : ((shaS b').take 4).length = 4 := by rw [List.length_take, shaS_len]; rfl
  generalize (shaS b').take 4 = d at *
  generalize pairP b' [y0, y1, y2, y3] = p at *
  generalize nodeP [y0, y1, y2, y3] [y0, y1, y2, y3] [y0, y1, y2, y3] = nn at *
  have t0 := y0.toNat_lt
  refine ⟨[], Ev_run t_law03_DigestStays rfl rfl ?_⟩
  by_cases hc : 5000 < b.length
  · rw [if_pos hc] at hb'
    rw [hb'] at h1 h2 h3 q1 q2 g0 hl'
    simp (maxSteps := 1000000) (disch := first | omega | (simp only [List.length_cons, List.length_nil, List.length_append, List.length_map, List.length_take, List.length_drop]; omega)) only [go_sem, ↓reduceIte, Nat.reduceSub, Nat.reduceAdd, Nat.reduceMul, Nat.reduceLeDiff, Nat.reduceLT, Nat.reduceEqDiff, Nat.reduceBEq, Int.reduceLE, Int.reduceLT, Int.reduceEq, Int.reduceNeg, Int.reduceAdd, Int.reduceSub, Int.reduceMul, Int.reduceToNat, i_law03_DigestStays, hc, h0, h1, h2, h3, h4, g0, q1, q2, q3, q4, q5, hdl]
  · rw [if_neg hc] at hb'
    subst hb'
    simp (maxSteps := 1000000) (disch := first | omega | (simp only [List.length_cons, List.length_nil, List.length_append, List.length_map, List.length_take, List.length_drop]; omega)) only [go_sem, ↓reduceIte, Nat.reduceSub, Nat.reduceAdd, Nat.reduceMul, Nat.reduceLeDiff, Nat.reduceLT, Nat.reduceEqDiff, Nat.reduceBEq, Int.reduceLE, Int.reduceLT, Int.reduceEq, Int.reduceNeg, Int.reduceAdd, Int.reduceSub, Int.reduceMul, Int.reduceToNat, i_law03_DigestStays, hc, h0, h1, h2, h3, h4, g0, q1, q2, q3, q4, q5, hdl]
theorem law_DigestStays (b : List UInt8) (y0 y1 y2 y3 : UInt8) (hb : b.length ≤ 1048576) : ∃ outs, Ev tab G0 n_law03_DigestStays [.sl true (eB b), .agg [u8 y0.toNat, u8 y1.toNat, u8 y2.toNat, u8 y3.toNat]] [] = some ([bo true], outs) := DigestStays_run b _ y0 y1 y2 y3 hb rfl

end Go.Proofs.YthaegfemlhibfaaDoor
