/-
  A digest.
-/
import Derived.Test.YtdngljdbgepaiaaGreatDoorLSha
import Derived.Test.YtdngljdbgepaiaaGreatDoorLRow
set_option linter.unusedSimpArgs false
set_option linter.unusedVariables false
set_option maxRecDepth 200000
set_option maxHeartbeats 4000000
namespace Go.Proofs.YtdngljdbgepaiaaGreatDoor
open Go.Ev

/-- So many blocks. -/
def sumV (K : List Int) : Nat → V8 → List UInt8 → V8
  | 0, v, _ => v
  | n + 1, v, l => sumV K n (stp K v (l.take 64)) (l.drop 64)
theorem sumV_app (K : List Int) : ∀ (n m : Nat) (v : V8) (l r : List UInt8), l.length = 64 * n → sumV K (n + m) v (l ++ r) = sumV K m (sumV K n v l) r
  | 0, m, v, l, r, h => by
    have : l = [] := List.eq_nil_of_length_eq_zero (by omega)
    subst this
    rw [Nat.zero_add]; rfl
  | n + 1, m, v, l, r, h => by
    rw [show n + 1 + m = n + m + 1 by omega, sumV, sumV, List.take_append_of_le_length (by omega), List.drop_append_of_le_length (by omega)]
    exact sumV_app K n m _ _ r (by simp; omega)
def w4 (x : Int) : List UInt8 := [byt (x.fdiv 16777216), byt (x.fdiv 65536), byt (x.fdiv 256), byt x]
def out32 (v : V8) : List UInt8 := w4 v.a ++ (w4 v.b ++ (w4 v.c ++ (w4 v.d ++ (w4 v.e ++ (w4 v.f ++ (w4 v.g ++ w4 v.h))))))
theorem out32_len (v : V8) : (out32 v).length = 32 := rfl
theorem tailB_len (n : Int) : (tailB n).length = 9 + ((55 - n) % 64).toNat := by
  simp only [tailB, List.length_cons, List.length_append, List.length_replicate, beB_len]; omega
/-- How many blocks. -/
def nblk (n : Nat) : Nat := (n + 9 + ((55 - (n : Int)) % 64).toNat) / 64
theorem nblk_eq (n : Nat) : n + 9 + ((55 - (n : Int)) % 64).toNat = 64 * nblk n := by unfold nblk; omega
/-- The digest. -/
def shaS (b : List UInt8) : List UInt8 := out32 (sumV tabK (nblk b.length) V1 (b ++ tailB b.length))
theorem shaS_len (b : List UInt8) : (shaS b).length = 32 := rfl
theorem sum_loop1 (x y : List UInt8) (j : Int) : ∀ (n : Nat) (l : List UInt8) (v : V8), l.length = 64 * n → l.length ≤ 1073741824 → L_sha_Sum_1 (s_sha_Sum_K1 (.ptr 1 0) (.sl true (eB l)) (.agg [.sl true (eB x), .sl true (eB y)]) (i64 j) [none, some (oV v), none]) = some (.exit 2, s_sha_Sum_J2 (.ptr 1 0) (.agg [.sl true (eB x), .sl true (eB y)]) (i64 j) [none, some (oV (sumV tabK n v l)), none])
  | 0, l, v, h, hb => by
    rw [L_sha_Sum_1_eq]
    simp (maxSteps := 1000000) (disch := first | omega | (simp only [lens, List.length_map]; omega)) only [go_sem, ↓reduceIte, Nat.reduceSub, Nat.reduceAdd, Nat.reduceMul, Nat.reduceLeDiff, Nat.reduceLT, Nat.reduceEqDiff, Nat.reduceBEq, Int.reduceLE, Int.reduceLT, Int.reduceEq, Int.reduceNeg, Int.reduceAdd, Int.reduceSub, Int.reduceMul, Int.reduceToNat, i_sha_Sum_b1, sumV]
  | n + 1, l, v, h, hb => by
    have ih := sum_loop1 x y j n (l.drop 64) (stp tabK v (l.take 64)) (by simp; omega) (by simp; omega)
    have h1 := sha_Step_good v (l.take 64) (by simp; omega)
    rw [L_sha_Sum_1_eq, sumV]
    generalize stp tabK v (l.take 64) = w at *
    generalize sumV tabK n w (l.drop 64) = w2 at *
    try simp (maxSteps := 1000000) (disch := first | omega | (simp only [lens, List.length_map]; omega)) only [go_sem, ↓reduceIte, Nat.reduceSub, Nat.reduceAdd, Nat.reduceMul, Nat.reduceLeDiff, Nat.reduceLT, Nat.reduceEqDiff, Nat.reduceBEq, Int.reduceLE, Int.reduceLT, Int.reduceEq, Int.reduceNeg, Int.reduceAdd, Int.reduceSub, Int.reduceMul, Int.reduceToNat] at ih
    try simp (maxSteps := 1000000) (disch := first | omega | (simp only [lens, List.length_map]; omega)) only [go_sem, ↓reduceIte, Nat.reduceSub, Nat.reduceAdd, Nat.reduceMul, Nat.reduceLeDiff, Nat.reduceLT, Nat.reduceEqDiff, Nat.reduceBEq, Int.reduceLE, Int.reduceLT, Int.reduceEq, Int.reduceNeg, Int.reduceAdd, Int.reduceSub, Int.reduceMul, Int.reduceToNat] at h1
    simp (maxSteps := 1000000) (disch := first | omega | (simp only [lens, List.length_map]; omega)) only [go_sem, ↓reduceIte, Nat.reduceSub, Nat.reduceAdd, Nat.reduceMul, Nat.reduceLeDiff, Nat.reduceLT, Nat.reduceEqDiff, Nat.reduceBEq, Int.reduceLE, Int.reduceLT, Int.reduceEq, Int.reduceNeg, Int.reduceAdd, Int.reduceSub, Int.reduceMul, Int.reduceToNat, i_sha_Sum_b1, ih, h1]
theorem w4_len (x : Int) : (w4 x).length = 4 := rfl
theorem w4_emp (x : Int) : (eB (w4 x)).isEmpty = false := rfl
theorem w4_of (x : Int) : eB [byt (x.fdiv 16777216), byt (x.fdiv 65536), byt (x.fdiv 256), byt x] = eB (w4 x) := rfl
theorem sum_it (ws : List AV) (hr : refsL ws = []) (ha : ageL true ws = ws) (i : Nat) (hi : i < 8) (x : Int) (hx : ws[i]? = some (u32 x)) (hw : ws.length = 8) (l : List UInt8) (hl : l.length = 4 * i) : L_sha_Sum_2 (s_sha_Sum_K2 (rwA 2 l) (.agg ws) (i64 i) [none, none, rwO l]) = L_sha_Sum_2 (s_sha_Sum_K2 (.row 2 (l.length + 4)) (.agg ws) (i64 (i + 1 : Nat)) [none, none, rowB (l ++ w4 x)]) := by
  have p24 : (2 : Int) ^ (min 24 32) = 16777216 := by decide
  have p16 : (2 : Int) ^ (min 16 32) = 65536 := by decide
  have p8 : (2 : Int) ^ (min 8 32) = 256 := by decide
  have e : IntKind.bits .u32 = 32 := rfl
  have ei : ((i + 1 : Nat) : Int) = (i : Int) + 1 := by omega
  rw [L_sha_Sum_2_eq]
  cases l with
  | nil =>
    simp only [List.length_nil] at hl
    simp (maxSteps := 1000000) (disch := first | omega | (simp only [lens, List.length_map]; omega)) only [go_sem, ↓reduceIte, Nat.reduceSub, Nat.reduceAdd, Nat.reduceMul, Nat.reduceLeDiff, Nat.reduceLT, Nat.reduceEqDiff, Nat.reduceBEq, Int.reduceLE, Int.reduceLT, Int.reduceEq, Int.reduceNeg, Int.reduceAdd, Int.reduceSub, Int.reduceMul, Int.reduceToNat, i_sha_Sum_b2, hx, hr, ha, hw, p24, p16, p8, e, w4_of, w4_len, w4_emp, ei, Nat.zero_add]
  | cons y l =>
    rw [rwA_ne (by simp), rwO_ne (by simp)]
    generalize y :: l = l' at *
    simp (maxSteps := 1000000) (disch := first | omega | (simp only [lens, List.length_map]; omega)) only [go_sem, ↓reduceIte, Nat.reduceSub, Nat.reduceAdd, Nat.reduceMul, Nat.reduceLeDiff, Nat.reduceLT, Nat.reduceEqDiff, Nat.reduceBEq, Int.reduceLE, Int.reduceLT, Int.reduceEq, Int.reduceNeg, Int.reduceAdd, Int.reduceSub, Int.reduceMul, Int.reduceToNat, i_sha_Sum_b2, hx, hr, ha, hw, hl, p24, p16, p8, e, w4_of, w4_len, w4_emp, ei]
theorem sum_loop2 (v : V8) : L_sha_Sum_2 (s_sha_Sum_K2 .nilsl (avV v) (i64 0) [none, none, none]) = some (.exit 4, s_sha_Sum_J4 (.row 2 32) [none, none, rowB (out32 v)]) := by
  have hn : ∀ (a b : List UInt8), (a ++ b).length = a.length + b.length := fun a b => List.length_append
  have key := fun (i : Nat) (hi : i < 8) (x : Int) (hx : [u32 v.a, u32 v.b, u32 v.c, u32 v.d, u32 v.e, u32 v.f, u32 v.g, u32 v.h][i]? = some (u32 x)) => sum_it [u32 v.a, u32 v.b, u32 v.c, u32 v.d, u32 v.e, u32 v.f, u32 v.g, u32 v.h] rfl rfl i hi x hx rfl
  have k0 := key 0 (by decide) v.a rfl [] rfl
  have k1 := key 1 (by decide) v.b rfl (w4 v.a) rfl
  have k2 := key 2 (by decide) v.c rfl (w4 v.a ++ w4 v.b) rfl
  have k3 := key 3 (by decide) v.d rfl ((w4 v.a ++ w4 v.b) ++ w4 v.c) rfl
  have k4 := key 4 (by decide) v.e rfl (((w4 v.a ++ w4 v.b) ++ w4 v.c) ++ w4 v.d) rfl
  have k5 := key 5 (by decide) v.f rfl ((((w4 v.a ++ w4 v.b) ++ w4 v.c) ++ w4 v.d) ++ w4 v.e) rfl
  have k6 := key 6 (by decide) v.g rfl (((((w4 v.a ++ w4 v.b) ++ w4 v.c) ++ w4 v.d) ++ w4 v.e) ++ w4 v.f) rfl
  have k7 := key 7 (by decide) v.h rfl ((((((w4 v.a ++ w4 v.b) ++ w4 v.c) ++ w4 v.d) ++ w4 v.e) ++ w4 v.f) ++ w4 v.g) rfl
  refine k0.trans (k1.trans (k2.trans (k3.trans (k4.trans (k5.trans (k6.trans (k7.trans ?_)))))))
  have e : (((((((w4 v.a ++ w4 v.b) ++ w4 v.c) ++ w4 v.d) ++ w4 v.e) ++ w4 v.f) ++ w4 v.g) ++ w4 v.h) = out32 v := rfl
  have e2 : ((7 + 1 : Nat) : Int) = 8 := rfl
  have e3 : ((((((w4 v.a ++ w4 v.b) ++ w4 v.c) ++ w4 v.d) ++ w4 v.e) ++ w4 v.f) ++ w4 v.g).length + 4 = 32 := rfl
  rw [e, e2, e3, L_sha_Sum_2_eq]
  generalize out32 v = o at *
  simp (maxSteps := 1000000) (disch := first | omega | (simp only [lens, List.length_map]; omega)) only [go_sem, ↓reduceIte, Nat.reduceSub, Nat.reduceAdd, Nat.reduceMul, Nat.reduceLeDiff, Nat.reduceLT, Nat.reduceEqDiff, Nat.reduceBEq, Int.reduceLE, Int.reduceLT, Int.reduceEq, Int.reduceNeg, Int.reduceAdd, Int.reduceSub, Int.reduceMul, Int.reduceToNat, i_sha_Sum_b2]
theorem sum_loop0 (x y : List UInt8) (n m : Nat) (hx : x.length = 64 * n) (hy : y.length = 64 * m) (bx : x.length ≤ 1073741824) (by' : y.length ≤ 1073741824) (v : V8) : L_sha_Sum_0 (s_sha_Sum_K0 (.ptr 1 0) (.agg [.sl true (eB x), .sl true (eB y)]) (i64 0) [none, some (oV v), none]) = some (.exit 0, s_sha_Sum_J0 (.ptr 1 0) [none, some (oV (sumV tabK (n + m) v (x ++ y))), none]) := by
  have h1 := sum_loop1 x y 0 n x v hx bx
  have h2 := sum_loop1 x y 1 m y (sumV tabK n v x) hy by'
  rw [sumV_app _ _ _ _ _ _ hx]
  generalize sumV tabK n v x = z at *
  generalize sumV tabK m z y = z2 at *
  try simp (maxSteps := 1000000) (disch := first | omega | (simp only [lens, List.length_map]; omega)) only [go_sem, ↓reduceIte, Nat.reduceSub, Nat.reduceAdd, Nat.reduceMul, Nat.reduceLeDiff, Nat.reduceLT, Nat.reduceEqDiff, Nat.reduceBEq, Int.reduceLE, Int.reduceLT, Int.reduceEq, Int.reduceNeg, Int.reduceAdd, Int.reduceSub, Int.reduceMul, Int.reduceToNat] at h1
  try simp (maxSteps := 1000000) (disch := first | omega | (simp only [lens, List.length_map]; omega)) only [go_sem, ↓reduceIte, Nat.reduceSub, Nat.reduceAdd, Nat.reduceMul, Nat.reduceLeDiff, Nat.reduceLT, Nat.reduceEqDiff, Nat.reduceBEq, Int.reduceLE, Int.reduceLT, Int.reduceEq, Int.reduceNeg, Int.reduceAdd, Int.reduceSub, Int.reduceMul, Int.reduceToNat] at h2
  simp (maxSteps := 1000000) (disch := first | omega | (simp only [lens, List.length_map]; omega)) only [go_sem, ↓reduceIte, Nat.reduceSub, Nat.reduceAdd, Nat.reduceMul, Nat.reduceLeDiff, Nat.reduceLT, Nat.reduceEqDiff, Nat.reduceBEq, Int.reduceLE, Int.reduceLT, Int.reduceEq, Int.reduceNeg, Int.reduceAdd, Int.reduceSub, Int.reduceMul, Int.reduceToNat, L_sha_Sum_0_eq, i_sha_Sum_b0, h1, h2]
theorem sha_Sum_ev (b : List UInt8) (hb : b.length ≤ 1048576) : Ev tab G0 n_sha_Sum [.sl true (eB b)] [] = some ([.sl true (eB (shaS b))], []) := by
  have h0 := sha_Tail_good b.length (by omega)
  have ht := tailB_len b.length
  have hn := nblk_eq b.length
  have hq : b.length / 64 ≤ nblk b.length := by omega
  have h1 := sum_loop0 (b.take (64 * (b.length / 64))) (b.drop (64 * (b.length / 64)) ++ tailB b.length) (b.length / 64) (nblk b.length - b.length / 64) (by rw [List.length_take]; omega) (by simp only [List.length_append, List.length_drop, ht]; omega) (by rw [List.length_take]; omega) (by simp only [List.length_append, List.length_drop, ht]; omega) V1
  rw [← List.append_assoc, List.take_append_drop, show b.length / 64 + (nblk b.length - b.length / 64) = nblk b.length by omega] at h1
  have h3 := sum_loop2 (sumV tabK (nblk b.length) V1 (b ++ tailB b.length))
  rw [← shaS] at h3
  have e1 : ((b.length : Int) / 64 * 64).toNat = 64 * (b.length / 64) := by omega
  have e2 : (0 : Int) ≤ (b.length : Int) / 64 * 64 ∧ (b.length : Int) / 64 * 64 ≤ b.length := by omega
  have e3 : (64 * (b.length / 64)) ≤ b.length := by omega
  generalize sumV tabK (nblk b.length) V1 (b ++ tailB b.length) = z at *
  have hs := shaS_len b
  generalize shaS b = s at *
  try simp (maxSteps := 1000000) (disch := first | omega | (simp only [lens, List.length_map]; omega)) only [go_sem, ↓reduceIte, Nat.reduceSub, Nat.reduceAdd, Nat.reduceMul, Nat.reduceLeDiff, Nat.reduceLT, Nat.reduceEqDiff, Nat.reduceBEq, Int.reduceLE, Int.reduceLT, Int.reduceEq, Int.reduceNeg, Int.reduceAdd, Int.reduceSub, Int.reduceMul, Int.reduceToNat] at h1
  try simp (maxSteps := 1000000) (disch := first | omega | (simp only [lens, List.length_map]; omega)) only [go_sem, ↓reduceIte, Nat.reduceSub, Nat.reduceAdd, Nat.reduceMul, Nat.reduceLeDiff, Nat.reduceLT, Nat.reduceEqDiff, Nat.reduceBEq, Int.reduceLE, Int.reduceLT, Int.reduceEq, Int.reduceNeg, Int.reduceAdd, Int.reduceSub, Int.reduceMul, Int.reduceToNat] at h3
  generalize 64 * (b.length / 64) = q at *
  generalize tailB b.length = tl at *
  refine Ev_run t_sha_Sum rfl rfl ?_
  simp (maxSteps := 1000000) (disch := first | omega | (simp only [lens, List.length_map]; omega)) only [go_sem, ↓reduceIte, Nat.reduceSub, Nat.reduceAdd, Nat.reduceMul, Nat.reduceLeDiff, Nat.reduceLT, Nat.reduceEqDiff, Nat.reduceBEq, Int.reduceLE, Int.reduceLT, Int.reduceEq, Int.reduceNeg, Int.reduceAdd, Int.reduceSub, Int.reduceMul, Int.reduceToNat, i_sha_Sum, h0, e1, gH_take, gH_av, h1, h3, hs]
/-! ### The document's -/
theorem rsum_loop0 (K : List Int) (hK : K.length = 64) (H : V8) (all : List UInt8) (hb : all.length ≤ 1073741824) : ∀ (n i : Nat) (f : Bool) (v : V8), all.length = 64 * (n + i) → L_ref01_Tables_Sum_0 (s_ref01_Tables_Sum_K0 (.ptr 0 0) (.row 1 all.length) (.ptr 2 0) (i64 (64 * i : Nat)) [some (oTb K H), some (.row ty_uint8 1 true f (eB all)), some (oV v), none]) = some (.exit 0, s_ref01_Tables_Sum_J0 (.ptr 2 0) [none, none, some (oV (sumV K n v (all.drop (64 * i)))), none])
  | 0, i, f, v, h => by
    rw [L_ref01_Tables_Sum_0_eq]
    simp (maxSteps := 1000000) (disch := first | omega | (simp only [lens, List.length_map]; omega)) only [go_sem, ↓reduceIte, Nat.reduceSub, Nat.reduceAdd, Nat.reduceMul, Nat.reduceLeDiff, Nat.reduceLT, Nat.reduceEqDiff, Nat.reduceBEq, Int.reduceLE, Int.reduceLT, Int.reduceEq, Int.reduceNeg, Int.reduceAdd, Int.reduceSub, Int.reduceMul, Int.reduceToNat, i_ref01_Tables_Sum_b0, sumV]
  | n + 1, i, f, v, h => by
    have ih := rsum_loop0 K hK H all hb n (i + 1) true (stp K v ((all.drop (64 * i)).take 64)) (by omega)
    have h1 := ref01_Step_ev K hK H v ((all.drop (64 * i)).take 64) (by simp; omega)
    have e1 : ((64 * i : Nat) : Int) + 64 = (64 * (i + 1) : Nat) := by omega
    have e2 : (all.take (64 * (i + 1))).drop (64 * i) = (all.drop (64 * i)).take 64 := by rw [List.drop_take, show 64 * (i + 1) - 64 * i = 64 by omega]
    have e3 : (all.drop (64 * i)).drop 64 = all.drop (64 * (i + 1)) := by rw [List.drop_drop, show 64 * i + 64 = 64 * (i + 1) by omega]
    have b0 : (0 : Int) ≤ (64 * i : Nat) ∧ ((64 * i : Nat) : Int) < all.length ∧ ((64 * (i + 1) : Nat) : Int) ≤ all.length ∧ ((64 * i : Nat) : Int) ≤ (64 * (i + 1) : Nat) ∧ (0 : Int) ≤ (64 * (i + 1) : Nat) := by omega
    rw [L_ref01_Tables_Sum_0_eq, sumV, e3]
    generalize stp K v ((all.drop (64 * i)).take 64) = w at *
    generalize sumV K n w (all.drop (64 * (i + 1))) = w2 at *
    generalize 64 * (i + 1) = p2 at *
    generalize 64 * i = p1 at *
    try simp (maxSteps := 1000000) (disch := first | omega | (simp only [lens, List.length_map]; omega)) only [go_sem, ↓reduceIte, Nat.reduceSub, Nat.reduceAdd, Nat.reduceMul, Nat.reduceLeDiff, Nat.reduceLT, Nat.reduceEqDiff, Nat.reduceBEq, Int.reduceLE, Int.reduceLT, Int.reduceEq, Int.reduceNeg, Int.reduceAdd, Int.reduceSub, Int.reduceMul, Int.reduceToNat] at ih
    try simp (maxSteps := 1000000) (disch := first | omega | (simp only [lens, List.length_map]; omega)) only [go_sem, ↓reduceIte, Nat.reduceSub, Nat.reduceAdd, Nat.reduceMul, Nat.reduceLeDiff, Nat.reduceLT, Nat.reduceEqDiff, Nat.reduceBEq, Int.reduceLE, Int.reduceLT, Int.reduceEq, Int.reduceNeg, Int.reduceAdd, Int.reduceSub, Int.reduceMul, Int.reduceToNat] at h1
    simp (maxSteps := 1000000) (disch := first | omega | (simp only [lens, List.length_map]; omega)) only [go_sem, ↓reduceIte, Nat.reduceSub, Nat.reduceAdd, Nat.reduceMul, Nat.reduceLeDiff, Nat.reduceLT, Nat.reduceEqDiff, Nat.reduceBEq, Int.reduceLE, Int.reduceLT, Int.reduceEq, Int.reduceNeg, Int.reduceAdd, Int.reduceSub, Int.reduceMul, Int.reduceToNat, i_ref01_Tables_Sum_b0, ih, h1, e1, e2]
def wd (v : V8) (k : Nat) : Int := [v.a, v.b, v.c, v.d, v.e, v.f, v.g, v.h].getD k 0
def ob (v : V8) (i : Nat) : UInt8 := byt ((wd v (i / 4)).fdiv (2 ^ (min (24 - 8 * (i % 4)) 32)))
def fill32 (v : V8) : Nat → Nat → List UInt8 → List UInt8
  | 0, _, l => l
  | n + 1, i, l => fill32 v n (i + 1) (l.set i (ob v i))
theorem fill32_len (v : V8) : ∀ (n i : Nat) (l : List UInt8), (fill32 v n i l).length = l.length
  | 0, _, l => rfl
  | n + 1, i, l => by rw [fill32, fill32_len v n, List.length_set]
theorem wd_av (v : V8) (k : Nat) (h : k < 8) : [u32 v.a, u32 v.b, u32 v.c, u32 v.d, u32 v.e, u32 v.f, u32 v.g, u32 v.h][k]? = some (u32 (wd v k)) := by
  rcases k with _ | _ | _ | _ | _ | _ | _ | _ | k <;> first | rfl | omega
theorem rsum_loop1 (v : V8) : ∀ (n i : Nat) (l : List UInt8), n + i = 32 → l.length = 32 → L_ref01_Tables_Sum_1 (s_ref01_Tables_Sum_K1 (.ptr 2 0) (.row 3 32) (i64 i) [none, none, some (oV v), rowB l]) = some (.exit 2, s_ref01_Tables_Sum_J2 (.row 3 32) [none, none, none, rowB (fill32 v n i l)])
  | 0, i, l, h, hl => by
    obtain rfl : i = 32 := by omega
    rw [L_ref01_Tables_Sum_1_eq]
    simp (maxSteps := 1000000) (disch := first | omega | (simp only [lens, List.length_map]; omega)) only [go_sem, ↓reduceIte, Nat.reduceSub, Nat.reduceAdd, Nat.reduceMul, Nat.reduceLeDiff, Nat.reduceLT, Nat.reduceEqDiff, Nat.reduceBEq, Int.reduceLE, Int.reduceLT, Int.reduceEq, Int.reduceNeg, Int.reduceAdd, Int.reduceSub, Int.reduceMul, Int.reduceToNat, i_ref01_Tables_Sum_b1, fill32]
  | n + 1, i, l, h, hl => by
    have ih := rsum_loop1 v n (i + 1) (l.set i (ob v i)) (by omega) (by rw [List.length_set]; exact hl)
    have hx := wd_av v (i / 4) (by omega)
    have e1 : ((i : Int) / 4).toNat = i / 4 := by omega
    have e2 : (24 - 8 * ((i : Int) % 4)).toNat = 24 - 8 * (i % 4) := by omega
    have e3 : IntKind.bits .u32 = 32 := rfl
    have e4 : byt ((wd v (i / 4)).fdiv (2 ^ (min (24 - 8 * (i % 4)) 32))) = ob v i := rfl
    rw [L_ref01_Tables_Sum_1_eq, fill32]
    generalize fill32 v n (i + 1) (l.set i (ob v i)) = z at *
    try simp (maxSteps := 1000000) (disch := first | omega | (simp only [lens, List.length_map]; omega)) only [go_sem, ↓reduceIte, Nat.reduceSub, Nat.reduceAdd, Nat.reduceMul, Nat.reduceLeDiff, Nat.reduceLT, Nat.reduceEqDiff, Nat.reduceBEq, Int.reduceLE, Int.reduceLT, Int.reduceEq, Int.reduceNeg, Int.reduceAdd, Int.reduceSub, Int.reduceMul, Int.reduceToNat] at ih
    simp (maxSteps := 1000000) (disch := first | omega | (simp only [lens, List.length_map]; omega)) only [go_sem, ↓reduceIte, Nat.reduceSub, Nat.reduceAdd, Nat.reduceMul, Nat.reduceLeDiff, Nat.reduceLT, Nat.reduceEqDiff, Nat.reduceBEq, Int.reduceLE, Int.reduceLT, Int.reduceEq, Int.reduceNeg, Int.reduceAdd, Int.reduceSub, Int.reduceMul, Int.reduceToNat, i_ref01_Tables_Sum_b1, ih, hl, e1, e2, e3, e4, hx]
theorem fill32_out (v : V8) : fill32 v 32 0 (List.replicate 32 0) = out32 v := by
  have p24 : (2 : Int) ^ (min 24 32) = 16777216 := by decide
  have p16 : (2 : Int) ^ (min 16 32) = 65536 := by decide
  have p8 : (2 : Int) ^ (min 8 32) = 256 := by decide
  have p0 : (2 : Int) ^ (min 0 32) = 1 := by decide
  simp [fill32, ob, wd, out32, w4, List.replicate]
theorem ref01_Sum_ev (b : List UInt8) (hb : b.length ≤ 1048576) (K : List Int) (hK : K = tabK) : Ev tab G0 n_ref01_Tables_Sum [avTb K V1, .sl true (eB b)] [] = some ([.sl true (eB (shaS b))], []) := by
  have h0 := ref01_Tail_ev b.length (by omega)
  have ht := tailB_len b.length
  have hn := nblk_eq b.length
  have ha : (b ++ tailB b.length).length = 64 * nblk b.length := by simp only [List.length_append, ht]; omega
  have h1 := rsum_loop0 K (by rw [hK]; rfl) V1 (b ++ tailB b.length) (by omega) (nblk b.length) 0 false V1 (by omega)
  have h2 := rsum_loop1 (sumV K (nblk b.length) V1 (b ++ tailB b.length)) 32 0 [0, 0, 0, 0, 0, 0, 0, 0, 0, 0, 0, 0, 0, 0, 0, 0, 0, 0, 0, 0, 0, 0, 0, 0, 0, 0, 0, 0, 0, 0, 0, 0] rfl rfl
  have er : [0, 0, 0, 0, 0, 0, 0, 0, 0, 0, 0, 0, 0, 0, 0, 0, 0, 0, 0, 0, 0, 0, 0, 0, 0, 0, 0, 0, 0, 0, 0, 0] = List.replicate 32 (0 : UInt8) := rfl
  have eb : byt 0 = 0 := rfl
  have hz := fill32_len (sumV K (nblk b.length) V1 (b ++ tailB b.length)) 32 0 (List.replicate 32 0)
  have h3 : fill32 (sumV K (nblk b.length) V1 (b ++ tailB b.length)) 32 0 (List.replicate 32 0) = shaS b := by rw [fill32_out, hK]; rfl
  have e0 : ((64 * 0 : Nat) : Int) = 0 := rfl
  have e00 : ((0 : Nat) : Int) = 0 := rfl
  rw [h3] at hz
  have h3' : fill32 (sumV K (nblk b.length) V1 (b ++ tailB b.length)) 32 0 [0, 0, 0, 0, 0, 0, 0, 0, 0, 0, 0, 0, 0, 0, 0, 0, 0, 0, 0, 0, 0, 0, 0, 0, 0, 0, 0, 0, 0, 0, 0, 0] = shaS b := h3
  rw [h3'] at h2
  rw [List.length_replicate] at hz
  rw [e0, Nat.mul_zero, List.drop_zero] at h1
  rw [e00] at h2
  generalize sumV K (nblk b.length) V1 (b ++ tailB b.length) = z at *
  generalize shaS b = s at *
  try simp (maxSteps := 1000000) (disch := first | omega | (simp only [lens, List.length_map]; omega)) only [go_sem, ↓reduceIte, Nat.reduceSub, Nat.reduceAdd, Nat.reduceMul, Nat.reduceLeDiff, Nat.reduceLT, Nat.reduceEqDiff, Nat.reduceBEq, Int.reduceLE, Int.reduceLT, Int.reduceEq, Int.reduceNeg, Int.reduceAdd, Int.reduceSub, Int.reduceMul, Int.reduceToNat] at h1
  try simp (maxSteps := 1000000) (disch := first | omega | (simp only [lens, List.length_map]; omega)) only [go_sem, ↓reduceIte, Nat.reduceSub, Nat.reduceAdd, Nat.reduceMul, Nat.reduceLeDiff, Nat.reduceLT, Nat.reduceEqDiff, Nat.reduceBEq, Int.reduceLE, Int.reduceLT, Int.reduceEq, Int.reduceNeg, Int.reduceAdd, Int.reduceSub, Int.reduceMul, Int.reduceToNat] at h2
  refine Ev_run t_ref01_Tables_Sum rfl rfl ?_
  simp (maxSteps := 1000000) (disch := first | omega | (simp only [lens, List.length_map]; omega)) only [go_sem, ↓reduceIte, Nat.reduceSub, Nat.reduceAdd, Nat.reduceMul, Nat.reduceLeDiff, Nat.reduceLT, Nat.reduceEqDiff, Nat.reduceBEq, Int.reduceLE, Int.reduceLT, Int.reduceEq, Int.reduceNeg, Int.reduceAdd, Int.reduceSub, Int.reduceMul, Int.reduceToNat, i_ref01_Tables_Sum, h0, h1, h2, hz, eb]

end Go.Proofs.YtdngljdbgepaiaaGreatDoor
