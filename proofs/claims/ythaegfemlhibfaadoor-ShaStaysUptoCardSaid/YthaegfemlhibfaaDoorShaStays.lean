/-
  Bytes that are handed in stay as they are, and what was answered stays: the law.
-/
import Derived.Test.YthaegfemlhibfaaDoorLSum
set_option linter.unusedSimpArgs false
set_option linter.unusedVariables false
set_option maxRecDepth 200000
set_option maxHeartbeats 4000000
namespace Go.Proofs.YthaegfemlhibfaaDoor
open Go.Ev

theorem sha_Sum_k (b : List UInt8) (hb : b.length ≤ 1048576) : Ev tab G0 n_sha_Sum [.sl true (eB b)] [] = some ([.row 0 32], [.row ty_uint8 1 true false (eB (shaS b))]) := by
  have h0 := sha_Tail_good b.length (by omega)
  have ht := tailB_len b.length
  have hn := nblk_eq b.length
  have hq : b.length / 64 ≤ nblk b.length := by omega
  have h1 := sum_loop0 (b.take (64 * (b.length / 64))) (b.drop (64 * (b.length / 64)) ++ tailB b.length) (b.length / 64) (nblk b.length - b.length / 64) (by rw [List.length_take]; omega) (by simp only [List.length_append, List.length_drop, ht]; omega) (by rw [List.length_take]; omega) (by simp only [List.length_append, List.length_drop, ht]; omega) V1
  rw [← List.append_assoc, List.take_append_drop, show b.length / 64 + (nblk b.length - b.length / 64) = nblk b.length by omega] at h1
  have h3 := sum_loop2 (sumV tabK (nblk b.length) V1 (b ++ tailB b.length))
  rw [← shaS] at h3
  have e1 : ((b.length : Int) / 64 * 64).toNat = 64 * (b.length / 64) := by omega
  have e2 : (0 : Int) ≤ (b.length : Int) / 64 * 64 ∧ (b.length : Int) / 64 * 64 ≤ b.length := by omega
  have e3 : (64 * (b.length / 64)) ≤ b.length := by omega
  generalize sumV tabK (nblk b.length) V1 (b ++ tailB b.length) = z at *
  have hs := shaS_len b
  generalize shaS b = s at *
  try simp (maxSteps := 1000000) (disch := first | omega | (simp only [List.length_cons, List.length_nil, List.length_append, List.length_map, List.length_take, List.length_drop]; omega)) only [go_sem, ↓reduceIte, Nat.reduceSub, Nat.reduceAdd, Nat.reduceMul, Nat.reduceLeDiff, Nat.reduceLT, Nat.reduceEqDiff, Nat.reduceBEq, Int.reduceLE, Int.reduceLT, Int.reduceEq, Int.reduceNeg, Int.reduceAdd, Int.reduceSub, Int.reduceMul, Int.reduceToNat] at h1
  try simp (maxSteps := 1000000) (disch := first | omega | (simp only [List.length_cons, List.length_nil, List.length_append, List.length_map, List.length_take, List.length_drop]; omega)) only [go_sem, ↓reduceIte, Nat.reduceSub, Nat.reduceAdd, Nat.reduceMul, Nat.reduceLeDiff, Nat.reduceLT, Nat.reduceEqDiff, Nat.reduceBEq, Int.reduceLE, Int.reduceLT, Int.reduceEq, Int.reduceNeg, Int.reduceAdd, Int.reduceSub, Int.reduceMul, Int.reduceToNat] at h3
  generalize 64 * (b.length / 64) = q at *
  generalize tailB b.length = tl at *
  refine Ev_run t_sha_Sum rfl rfl ?_
  simp (maxSteps := 1000000) (disch := first | omega | (simp only [List.length_cons, List.length_nil, List.length_append, List.length_map, List.length_take, List.length_drop]; omega)) only [go_sem, ↓reduceIte, Nat.reduceSub, Nat.reduceAdd, Nat.reduceMul, Nat.reduceLeDiff, Nat.reduceLT, Nat.reduceEqDiff, Nat.reduceBEq, Int.reduceLE, Int.reduceLT, Int.reduceEq, Int.reduceNeg, Int.reduceAdd, Int.reduceSub, Int.reduceMul, Int.reduceToNat, i_sha_Sum, h0, e1, gH_take, gH_av, h1, h3, hs]
/-- An array of bytes. -/
def wB (l : List UInt8) : List AV := l.map fun b => u8 (b.toNat : Int)
theorem wB_len (l : List UInt8) : (wB l).length = l.length := List.length_map ..
theorem wB_refs : ∀ l : List UInt8, refsL (wB l) = []
  | [] => rfl
  | x :: l => wB_refs l
theorem wB_age (c : Bool) : ∀ l : List UInt8, ageL c (wB l) = wB l
  | [] => rfl
  | x :: l => by
    show AV.age c (u8 x.toNat) :: ageL c (wB l) = _
    rw [wB_age c l]
    rfl
theorem wB_ren (r : Nat → Nat) : ∀ l : List UInt8, renL r (wB l) = wB l
  | [] => rfl
  | x :: l => by
    show AV.ren r (u8 x.toNat) :: renL r (wB l) = _
    rw [wB_ren r l]
    rfl
theorem wB_ok : ∀ l : List UInt8, (wB l).all AV.cellOk = true
  | [] => rfl
  | x :: l => by
    show (AV.cellOk (u8 x.toNat) && (wB l).all AV.cellOk) = true
    rw [wB_ok l]
    rfl
theorem wB_canon : ∀ l : List UInt8, (wB l).map AV.canon1 = wB l
  | [] => rfl
  | x :: l => by
    show AV.canon1 (u8 x.toNat) :: (wB l).map AV.canon1 = _
    rw [wB_canon l]
    rfl
theorem wB_get {l : List UInt8} {i : Nat} (h : i < l.length) : (wB l)[i]? = some (u8 ((l.getD i 0).toNat : Int)) := by
  unfold wB
  rw [List.getElem?_map, List.getElem?_eq_getElem h]
  simp [List.getD, h]
abbrev oW (l : List UInt8) : Ev.Obj := .var (wB l)
abbrev rwB (l : List UInt8) : Ev.Obj := .row ty_uint8 1 true false (eB l)
abbrev rwF (l : List UInt8) : Ev.Obj := .row ty_uint8 1 true true (eB l)
theorem eB_one {x : UInt8} : (eB [x]).isEmpty = false := rfl
theorem take_snoc {l : List UInt8} {i : Nat} (h : i < l.length) : l.take (i + 1) = l.take i ++ [l.getD i 0] := by
  rw [List.take_add_one, List.getElem?_eq_getElem h]
  simp [List.getD, h]
theorem own_loop (k : List UInt8) (b s : List (List C)) : ∀ (n i : Nat) (o : List UInt8), n + i = o.length → o.length ≤ 1048576 → L_law01_ShaStays_0 (s_law01_ShaStays_K0 (.sl true b) (.ptr 0 0) (.row 1 o.length) (.sl true s) (i64 i) [some (oW k), some (rwB o), none, none, none]) = some (.exit 0, s_law01_ShaStays_J0 (.sl true b) (.ptr 0 0) (.sl true s) [some (oW k), none, none, none, none])
  | 0, i, o, h, hb => by
    rw [L_law01_ShaStays_0_eq]
    simp (maxSteps := 1000000) (disch := first | omega | (simp only [List.length_cons, List.length_nil, List.length_append, List.length_map, List.length_take, List.length_drop]; omega)) only [go_sem, ↓reduceIte, Nat.reduceSub, Nat.reduceAdd, Nat.reduceMul, Nat.reduceLeDiff, Nat.reduceLT, Nat.reduceEqDiff, Nat.reduceBEq, Int.reduceLE, Int.reduceLT, Int.reduceEq, Int.reduceNeg, Int.reduceAdd, Int.reduceSub, Int.reduceMul, Int.reduceToNat, i_law01_ShaStays_b0, wB_refs, wB_age]
  | n + 1, i, o, h, hb => by
    have ih := own_loop k b s n (i + 1) (o.set i (byt (((o.getD i 0).toNat : Int) + 1))) (by rw [List.length_set]; omega) (by rw [List.length_set]; omega)
    rw [List.length_set] at ih
    rw [L_law01_ShaStays_0_eq]
    generalize hd : o.getD i 0 = x at *
    have hx := x.toNat_lt
    generalize hq : o.set i (byt ((x.toNat : Int) + 1)) = q at *
    try simp (maxSteps := 1000000) (disch := first | omega | (simp only [List.length_cons, List.length_nil, List.length_append, List.length_map, List.length_take, List.length_drop]; omega)) only [go_sem, ↓reduceIte, Nat.reduceSub, Nat.reduceAdd, Nat.reduceMul, Nat.reduceLeDiff, Nat.reduceLT, Nat.reduceEqDiff, Nat.reduceBEq, Int.reduceLE, Int.reduceLT, Int.reduceEq, Int.reduceNeg, Int.reduceAdd, Int.reduceSub, Int.reduceMul, Int.reduceToNat] at ih
    simp (maxSteps := 1000000) (disch := first | omega | (simp only [List.length_cons, List.length_nil, List.length_append, List.length_map, List.length_take, List.length_drop]; omega)) only [go_sem, ↓reduceIte, Nat.reduceSub, Nat.reduceAdd, Nat.reduceMul, Nat.reduceLeDiff, Nat.reduceLT, Nat.reduceEqDiff, Nat.reduceBEq, Int.reduceLE, Int.reduceLT, Int.reduceEq, Int.reduceNeg, Int.reduceAdd, Int.reduceSub, Int.reduceMul, Int.reduceToNat, i_law01_ShaStays_b0, wB_refs, wB_age, hd, hq, ih]
theorem blk_loop (k : List UInt8) (hk : k.length = 64) (s z : List (List C)) : ∀ (n i : Nat), n + i = 64 → L_law01_ShaStays_1 (s_law01_ShaStays_K1 (.ptr 0 0) (.sl true s) (.sl true z) (rwA 4 (k.take i)) (i64 i) [some (oW k), none, none, none, rwO (k.take i)]) = some (.exit 2, s_law01_ShaStays_J2 (.ptr 0 0) (.sl true s) (.sl true z) (.row 4 64) [some (oW k), none, none, none, some (rwB k)])
  | 0, i, h => by
    obtain rfl : i = 64 := by omega
    have e : k.take 64 = k := List.take_of_length_le (by omega)
    rw [e, rwA_ne (fun e => by rw [e] at hk; cases hk), rwO_ne (fun e => by rw [e] at hk; cases hk), hk, L_law01_ShaStays_1_eq]
    simp (maxSteps := 1000000) (disch := first | omega | (simp only [List.length_cons, List.length_nil, List.length_append, List.length_map, List.length_take, List.length_drop]; omega)) only [go_sem, ↓reduceIte, Nat.reduceSub, Nat.reduceAdd, Nat.reduceMul, Nat.reduceLeDiff, Nat.reduceLT, Nat.reduceEqDiff, Nat.reduceBEq, Int.reduceLE, Int.reduceLT, Int.reduceEq, Int.reduceNeg, Int.reduceAdd, Int.reduceSub, Int.reduceMul, Int.reduceToNat, i_law01_ShaStays_b1, wB_refs, wB_age]
  | n + 1, i, h => by
    have ih := blk_loop k hk s z n (i + 1) (by omega)
    have hg := wB_get (l := k) (i := i) (by omega)
    have hl := wB_len k
    have hli : (k.take i).length = i := by rw [List.length_take]; omega
    have hne : (k.take i) ++ [k.getD i 0] ≠ [] := by simp
    rw [take_snoc (by omega), rwA_ne hne, rwO_ne hne, List.length_append, List.length_singleton, hli] at ih
    rw [L_law01_ShaStays_1_eq]
    generalize k.getD i 0 = x at *
    have hx := x.toNat_lt
    cases hq : k.take i with
    | nil =>
      rw [hq] at ih hli
      simp only [List.length_nil] at hli
      subst hli
      try simp (maxSteps := 1000000) (disch := first | omega | (simp only [List.length_cons, List.length_nil, List.length_append, List.length_map, List.length_take, List.length_drop]; omega)) only [go_sem, ↓reduceIte, Nat.reduceSub, Nat.reduceAdd, Nat.reduceMul, Nat.reduceLeDiff, Nat.reduceLT, Nat.reduceEqDiff, Nat.reduceBEq, Int.reduceLE, Int.reduceLT, Int.reduceEq, Int.reduceNeg, Int.reduceAdd, Int.reduceSub, Int.reduceMul, Int.reduceToNat] at ih
      rw [rwA_nil, rwO_nil]
      simp (maxSteps := 1000000) (disch := first | omega | (simp only [List.length_cons, List.length_nil, List.length_append, List.length_map, List.length_take, List.length_drop]; omega)) only [go_sem, ↓reduceIte, Nat.reduceSub, Nat.reduceAdd, Nat.reduceMul, Nat.reduceLeDiff, Nat.reduceLT, Nat.reduceEqDiff, Nat.reduceBEq, Int.reduceLE, Int.reduceLT, Int.reduceEq, Int.reduceNeg, Int.reduceAdd, Int.reduceSub, Int.reduceMul, Int.reduceToNat, i_law01_ShaStays_b1, wB_refs, wB_age, eB_one, hg, hl, hk, ih]
    | cons y l =>
      rw [hq] at ih hli
      rw [rwA_ne (by simp), rwO_ne (by simp)]
      generalize y :: l = l' at *
      try simp (maxSteps := 1000000) (disch := first | omega | (simp only [List.length_cons, List.length_nil, List.length_append, List.length_map, List.length_take, List.length_drop]; omega)) only [go_sem, ↓reduceIte, Nat.reduceSub, Nat.reduceAdd, Nat.reduceMul, Nat.reduceLeDiff, Nat.reduceLT, Nat.reduceEqDiff, Nat.reduceBEq, Int.reduceLE, Int.reduceLT, Int.reduceEq, Int.reduceNeg, Int.reduceAdd, Int.reduceSub, Int.reduceMul, Int.reduceToNat] at ih
      simp (maxSteps := 1000000) (disch := first | omega | (simp only [List.length_cons, List.length_nil, List.length_append, List.length_map, List.length_take, List.length_drop]; omega)) only [go_sem, ↓reduceIte, Nat.reduceSub, Nat.reduceAdd, Nat.reduceMul, Nat.reduceLeDiff, Nat.reduceLT, Nat.reduceEqDiff, Nat.reduceBEq, Int.reduceLE, Int.reduceLT, Int.reduceEq, Int.reduceNeg, Int.reduceAdd, Int.reduceSub, Int.reduceMul, Int.reduceToNat, i_law01_ShaStays_b1, wB_refs, wB_age, hg, hl, hk, hli, ih]
theorem chk_loop (k : List UInt8) (hk : k.length = 64) (s z w : List (List C)) (e : AV) (he : e.refs = [] ∧ e.age true = e) : ∀ (n i : Nat), n + i = 64 → L_law01_ShaStays_2 (s_law01_ShaStays_K2 (.ptr 0 0) (.sl true s) (.sl true z) (.row 4 64) (.sl true w) e (i64 i) [some (oW k), none, none, none, some (rwF k)]) = some (.exit 4, s_law01_ShaStays_J4 (.sl true s) (.sl true z) (.sl true w) e [none, none, none, none, none])
  | 0, i, h => by
    obtain rfl : i = 64 := by omega
    rw [L_law01_ShaStays_2_eq]
    simp (maxSteps := 1000000) (disch := first | omega | (simp only [List.length_cons, List.length_nil, List.length_append, List.length_map, List.length_take, List.length_drop]; omega)) only [go_sem, ↓reduceIte, Nat.reduceSub, Nat.reduceAdd, Nat.reduceMul, Nat.reduceLeDiff, Nat.reduceLT, Nat.reduceEqDiff, Nat.reduceBEq, Int.reduceLE, Int.reduceLT, Int.reduceEq, Int.reduceNeg, Int.reduceAdd, Int.reduceSub, Int.reduceMul, Int.reduceToNat, i_law01_ShaStays_b2, wB_refs, wB_age, he.1, he.2]
  | n + 1, i, h => by
    have ih := chk_loop k hk s z w e he n (i + 1) (by omega)
    have hg := wB_get (l := k) (i := i) (by omega)
    have hl := wB_len k
    rw [L_law01_ShaStays_2_eq]
    generalize hd : k.getD i 0 = x at *
    try simp (maxSteps := 1000000) (disch := first | omega | (simp only [List.length_cons, List.length_nil, List.length_append, List.length_map, List.length_take, List.length_drop]; omega)) only [go_sem, ↓reduceIte, Nat.reduceSub, Nat.reduceAdd, Nat.reduceMul, Nat.reduceLeDiff, Nat.reduceLT, Nat.reduceEqDiff, Nat.reduceBEq, Int.reduceLE, Int.reduceLT, Int.reduceEq, Int.reduceNeg, Int.reduceAdd, Int.reduceSub, Int.reduceMul, Int.reduceToNat, he.1, he.2] at ih
    simp (maxSteps := 1000000) (disch := first | omega | (simp only [List.length_cons, List.length_nil, List.length_append, List.length_map, List.length_take, List.length_drop]; omega)) only [go_sem, ↓reduceIte, Nat.reduceSub, Nat.reduceAdd, Nat.reduceMul, Nat.reduceLeDiff, Nat.reduceLT, Nat.reduceEqDiff, Nat.reduceBEq, Int.reduceLE, Int.reduceLT, Int.reduceEq, Int.reduceNeg, Int.reduceAdd, Int.reduceSub, Int.reduceMul, Int.reduceToNat, i_law01_ShaStays_b2, wB_refs, wB_age, he.1, he.2, hg, hl, hk, hd, ih]
theorem ShaStays_run (b b' k : List UInt8) (hb : b.length ≤ 1048576) (hb' : b' = if 20000 < b.length then b.take 20000 else b) (hk : k.length = 64) : ∃ outs, Ev tab G0 n_law01_ShaStays [.sl true (eB b), .agg (wB k)] [] = some ([bo true], outs) := by
  have hl' : b'.length ≤ 20000 := by
    rw [hb']
    split
    · rw [List.length_take]; omega
    · omega
  have h1 := sha_Sum_k b' (by omega)
  have h2 := sha_Words_good k hk
  have hs := shaS_len b'
  have hw : (wordsB k).length = 64 := wordsB_len (b := k)
  have g0 := fun (z s : List (List C)) => own_loop k z s b'.length 0 b' (by omega) (by omega)
  have g1 := fun (s z : List (List C)) => blk_loop k hk s z 64 0 (by omega)
  have g2 := fun (s z w : List (List C)) => chk_loop k hk s z w (.s .nilIface) ⟨rfl, rfl⟩ 64 0 (by omega)
  have e0 : ((0 : Nat) : Int) = 0 := rfl
  simp only [e0, List.take_zero, rwA_nil, rwO_nil] at g0 g1 g2
  have hbb : (b' == b') = true := beq_self_eq_true _
  have hss : (shaS b' == shaS b') = true := beq_self_eq_true _
  generalize shaS b' = s at *
  generalize wordsB k = w at *
  have hl := wB_len k
  refine ⟨[], Ev_run t_law01_ShaStays rfl rfl ?_⟩
  by_cases hc : 20000 < b.length
  · rw [if_pos hc] at hb'
    rw [hb'] at h1 hbb g0 hl'
    simp (maxSteps := 1000000) (disch := first | omega | (simp only [List.length_cons, List.length_nil, List.length_append, List.length_map, List.length_take, List.length_drop]; omega)) only [go_sem, ↓reduceIte, Nat.reduceSub, Nat.reduceAdd, Nat.reduceMul, Nat.reduceLeDiff, Nat.reduceLT, Nat.reduceEqDiff, Nat.reduceBEq, Int.reduceLE, Int.reduceLT, Int.reduceEq, Int.reduceNeg, Int.reduceAdd, Int.reduceSub, Int.reduceMul, Int.reduceToNat, i_law01_ShaStays, wB_refs, wB_age, wB_ok, wB_canon, wB_ren, hl, hk, hc, h1, h2, hs, hw, g0, g1, g2, hbb, hss]
  · rw [if_neg hc] at hb'
    subst hb'
    simp (maxSteps := 1000000) (disch := first | omega | (simp only [List.length_cons, List.length_nil, List.length_append, List.length_map, List.length_take, List.length_drop]; omega)) only [go_sem, ↓reduceIte, Nat.reduceSub, Nat.reduceAdd, Nat.reduceMul, Nat.reduceLeDiff, Nat.reduceLT, Nat.reduceEqDiff, Nat.reduceBEq, Int.reduceLE, Int.reduceLT, Int.reduceEq, Int.reduceNeg, Int.reduceAdd, Int.reduceSub, Int.reduceMul, Int.reduceToNat, i_law01_ShaStays, wB_refs, wB_age, wB_ok, wB_canon, wB_ren, hl, hk, hc, h1, h2, hs, hw, g0, g1, g2, hbb, hss]
theorem law_ShaStays (b k : List UInt8) (hb : b.length ≤ 1048576) (hk : k.length = 64) : ∃ outs, Ev tab G0 n_law01_ShaStays [.sl true (eB b), .agg (wB k)] [] = some ([bo true], outs) := ShaStays_run b _ k hb rfl hk
theorem bytes_arr (l : List Int) (w : ∀ i ∈ l, (Lit.int .u8 i).wf = true) : ∃ y : List UInt8, l = y.map fun b => (b.toNat : Int) := by
  refine ⟨l.map byt, ?_⟩
  rw [List.map_map]
  conv => lhs; rw [← List.map_id l]
  refine List.map_congr_left fun i hi => ?_
  have h := w i hi
  simp [Lit.wf, IntKind.has, IntKind.min, IntKind.max, IntKind.signed, IntKind.bits] at h
  have := toNat_byt (n := i)
  simp only [Function.comp, id]
  rw [this]
  omega
theorem arr_eq (y : List UInt8) : ((y.map fun b => (b.toNat : Int)).map fun i => C.sc (.int .u8 i)).map (ofC true) = wB y := by
  unfold wB
  rw [List.map_map, List.map_map]
  rfl

end Go.Proofs.YthaegfemlhibfaaDoor
