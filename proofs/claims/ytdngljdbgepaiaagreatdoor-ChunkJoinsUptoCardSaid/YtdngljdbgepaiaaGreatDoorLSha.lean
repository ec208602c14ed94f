/-
  A round, a step, the words at first.
-/
import Derived.Test.YtdngljdbgepaiaaGreatDoorLWords
import Derived.Test.YtdngljdbgepaiaaGreatDoorLTail
set_option linter.unusedSimpArgs false
set_option linter.unusedVariables false
set_option maxRecDepth 200000
set_option maxHeartbeats 4000000
namespace Go.Proofs.YtdngljdbgepaiaaGreatDoor
open Go.Ev

/-- Eight words. -/
structure V8 where
  (a b c d e f g h : Int)
abbrev avV (v : V8) : AV := .agg [u32 v.a, u32 v.b, u32 v.c, u32 v.d, u32 v.e, u32 v.f, u32 v.g, u32 v.h]
abbrev oV (v : V8) : Ev.Obj := .var [u32 v.a, u32 v.b, u32 v.c, u32 v.d, u32 v.e, u32 v.f, u32 v.g, u32 v.h]
def rT1 (v : V8) (k w : Int) : Int := IntKind.wrap .u32 (IntKind.wrap .u32 (IntKind.wrap .u32 (IntKind.wrap .u32 (v.h + xorI .u32 (xorI .u32 (ror v.e 6) (ror v.e 11)) (ror v.e 25)) + xorI .u32 (andI .u32 v.e v.f) (andI .u32 (notI .u32 v.e) v.g)) + k) + w)
def rT2 (v : V8) : Int := IntKind.wrap .u32 (xorI .u32 (xorI .u32 (ror v.a 2) (ror v.a 13)) (ror v.a 22) + xorI .u32 (xorI .u32 (andI .u32 v.a v.b) (andI .u32 v.a v.c)) (andI .u32 v.b v.c))
/-- A round. -/
def rnd (v : V8) (k w : Int) : V8 := ⟨IntKind.wrap .u32 (rT1 v k w + rT2 v), v.a, v.b, v.c, IntKind.wrap .u32 (v.d + rT1 v k w), v.e, v.f, v.g⟩
theorem notI_def {k : IntKind} {x : Int} : xorI k (if k.signed = true then -1 else k.max) x = notI k x := rfl
theorem un_not {k : IntKind} {x y : Int} : bitsI k .xor x y = some (xorI k x y) := rfl
theorem rot6 (x : Int) : Ev tab G0 n_math_bits_RotateLeft32 [u32 x, i64 (-6)] [] = some ([u32 (ror x 6)], []) := rot_ev x (-6) 18446744073709551610 6 26 (by decide) (by decide) (by decide) (by decide) (by decide) (by decide)
theorem rot11 (x : Int) : Ev tab G0 n_math_bits_RotateLeft32 [u32 x, i64 (-11)] [] = some ([u32 (ror x 11)], []) := rot_ev x (-11) 18446744073709551605 11 21 (by decide) (by decide) (by decide) (by decide) (by decide) (by decide)
theorem rot25 (x : Int) : Ev tab G0 n_math_bits_RotateLeft32 [u32 x, i64 (-25)] [] = some ([u32 (ror x 25)], []) := rot_ev x (-25) 18446744073709551591 25 7 (by decide) (by decide) (by decide) (by decide) (by decide) (by decide)
theorem rot2 (x : Int) : Ev tab G0 n_math_bits_RotateLeft32 [u32 x, i64 (-2)] [] = some ([u32 (ror x 2)], []) := rot_ev x (-2) 18446744073709551614 2 30 (by decide) (by decide) (by decide) (by decide) (by decide) (by decide)
theorem rot13 (x : Int) : Ev tab G0 n_math_bits_RotateLeft32 [u32 x, i64 (-13)] [] = some ([u32 (ror x 13)], []) := rot_ev x (-13) 18446744073709551603 13 19 (by decide) (by decide) (by decide) (by decide) (by decide) (by decide)
theorem rot22 (x : Int) : Ev tab G0 n_math_bits_RotateLeft32 [u32 x, i64 (-22)] [] = some ([u32 (ror x 22)], []) := rot_ev x (-22) 18446744073709551594 22 10 (by decide) (by decide) (by decide) (by decide) (by decide) (by decide)
theorem sha_Round_ev (v : V8) (k w : Int) : Ev tab G0 n_sha_Round [avV v, u32 k, u32 w] [] = some ([avV (rnd v k w)], []) := by
  refine Ev_run t_sha_Round rfl rfl ?_
  simp (maxSteps := 1000000) (disch := first | omega | (simp only [lens, List.length_map]; omega)) only [go_sem, ↓reduceIte, Nat.reduceSub, Nat.reduceAdd, Nat.reduceMul, Nat.reduceLeDiff, Nat.reduceLT, Nat.reduceEqDiff, Nat.reduceBEq, Int.reduceLE, Int.reduceLT, Int.reduceEq, Int.reduceNeg, Int.reduceAdd, Int.reduceSub, Int.reduceMul, Int.reduceToNat, avV, i_sha_Round, rnd, rT1, rT2, rot6, rot11, rot25, rot2, rot13, rot22, un_not, notI]
theorem ref01_Round_ev (v : V8) (k w : Int) : Ev tab G0 n_ref01_Round [avV v, u32 k, u32 w] [] = some ([avV (rnd v k w)], []) := by
  have t (x n : Int) (h : 0 ≤ n ∧ n ≤ 32) := turn_ev x n h
  refine Ev_run t_ref01_Round rfl rfl ?_
  simp (maxSteps := 1000000) (disch := first | omega | (simp only [lens, List.length_map]; omega)) only [go_sem, ↓reduceIte, Nat.reduceSub, Nat.reduceAdd, Nat.reduceMul, Nat.reduceLeDiff, Nat.reduceLT, Nat.reduceEqDiff, Nat.reduceBEq, Int.reduceLE, Int.reduceLT, Int.reduceEq, Int.reduceNeg, Int.reduceAdd, Int.reduceSub, Int.reduceMul, Int.reduceToNat, avV, i_ref01_Round, rnd, rT1, rT2, t, un_not, notI]
/-- The words at first. -/
def V1 : V8 := ⟨1779033703, 3144134277, 1013904242, 2773480762, 1359893119, 2600822924, 528734635, 1541459225⟩
theorem gH_av : (Ev.AV.agg (gH.map (ofC true))) = avV V1 := rfl
attribute [go_sem] avV oV
theorem gK_dlen {i : Nat} : (gK.drop i).length = 64 - i := by rw [List.length_drop, gK_len]
attribute [go_sem] gK_dlen
/-- So many rounds. -/
def rnds (K W : List Int) : Nat → Nat → V8 → V8
  | 0, _, v => v
  | n + 1, i, v => rnds K W n (i + 1) (rnd v (K.getD i 0) (W.getD i 0))
def add8 (v x : V8) : V8 := ⟨IntKind.wrap .u32 (v.a + x.a), IntKind.wrap .u32 (v.b + x.b), IntKind.wrap .u32 (v.c + x.c), IntKind.wrap .u32 (v.d + x.d), IntKind.wrap .u32 (v.e + x.e), IntKind.wrap .u32 (v.f + x.f), IntKind.wrap .u32 (v.g + x.g), IntKind.wrap .u32 (v.h + x.h)⟩
theorem add8_comm (v x : V8) : add8 v x = add8 x v := by simp only [add8, Int.add_comm]
/-- A block's step. -/
def stp (K : List Int) (v : V8) (b : List UInt8) : V8 := add8 v (rnds K (wordsB b) 64 0 v)
theorem step_loop (z : List Int) (hz : z.length = 64) (v : V8) (o1 : Ev.AV) (ho : o1 = i64 0) : ∀ (n i : Nat) (x : V8), n + i = 64 → L_sha_Step_0 (s_sha_Step_K0 (.ptr 0 0) (.ptr 1 0) (.ptr 2 0) (.sl true (eI .u32 z)) (i64 64) (i64 i) [some (oV v), some (.var [u32 0, u32 0, u32 0, u32 0, u32 0, u32 0, u32 0, u32 0]), some (oV x)]) = some (.exit 0, s_sha_Step_J0 (.ptr 0 0) (.ptr 1 0) (.ptr 2 0) [some (oV v), some (.var [u32 0, u32 0, u32 0, u32 0, u32 0, u32 0, u32 0, u32 0]), some (oV (rnds tabK z n i x))])
  | 0, i, x, h => by
    obtain rfl : i = 64 := by omega
    rw [L_sha_Step_0_eq]
    simp (maxSteps := 1000000) (disch := first | omega | (simp only [lens, List.length_map]; omega)) only [go_sem, ↓reduceIte, Nat.reduceSub, Nat.reduceAdd, Nat.reduceMul, Nat.reduceLeDiff, Nat.reduceLT, Nat.reduceEqDiff, Nat.reduceBEq, Int.reduceLE, Int.reduceLT, Int.reduceEq, Int.reduceNeg, Int.reduceAdd, Int.reduceSub, Int.reduceMul, Int.reduceToNat, i_sha_Step_b0, rnds]
  | n + 1, i, x, h => by
    have ih := step_loop z hz v o1 ho n (i + 1) (rnd x (tabK.getD i 0) (z.getD i 0)) (by omega)
    have h1 := sha_Round_ev x (tabK.getD i 0) (z.getD i 0)
    rw [L_sha_Step_0_eq, rnds]
    generalize rnd x (tabK.getD i 0) (z.getD i 0) = y at *
    generalize rnds tabK z n (i + 1) y = y2 at *
    generalize hk : tabK.getD i 0 = k at *
    generalize hw : z.getD i 0 = w at *
    try simp (maxSteps := 1000000) (disch := first | omega | (simp only [lens, List.length_map]; omega)) only [go_sem, ↓reduceIte, Nat.reduceSub, Nat.reduceAdd, Nat.reduceMul, Nat.reduceLeDiff, Nat.reduceLT, Nat.reduceEqDiff, Nat.reduceBEq, Int.reduceLE, Int.reduceLT, Int.reduceEq, Int.reduceNeg, Int.reduceAdd, Int.reduceSub, Int.reduceMul, Int.reduceToNat] at ih
    simp (maxSteps := 1000000) (disch := first | omega | (simp only [lens, List.length_map]; omega)) only [go_sem, ↓reduceIte, Nat.reduceSub, Nat.reduceAdd, Nat.reduceMul, Nat.reduceLeDiff, Nat.reduceLT, Nat.reduceEqDiff, Nat.reduceBEq, Int.reduceLE, Int.reduceLT, Int.reduceEq, Int.reduceNeg, Int.reduceAdd, Int.reduceSub, Int.reduceMul, Int.reduceToNat, i_sha_Step_b0, ih, h1, hz, hk, hw]
theorem step_loop1 (v x : V8) : L_sha_Step_1 (s_sha_Step_K1 (.ptr 0 0) (.ptr 1 0) (.ptr 2 0) (i64 0) [some (oV v), some (.var [u32 0, u32 0, u32 0, u32 0, u32 0, u32 0, u32 0, u32 0]), some (oV x)]) = some (.exit 2, s_sha_Step_J2 (.ptr 0 0) (.ptr 1 0) [some (oV (add8 v x)), some (.var [u32 0, u32 0, u32 0, u32 0, u32 0, u32 0, u32 0, u32 0]), none]) := by
  simp (maxSteps := 1000000) (disch := first | omega | (simp only [lens, List.length_map]; omega)) only [go_sem, ↓reduceIte, Nat.reduceSub, Nat.reduceAdd, Nat.reduceMul, Nat.reduceLeDiff, Nat.reduceLT, Nat.reduceEqDiff, Nat.reduceBEq, Int.reduceLE, Int.reduceLT, Int.reduceEq, Int.reduceNeg, Int.reduceAdd, Int.reduceSub, Int.reduceMul, Int.reduceToNat, L_sha_Step_1_eq, i_sha_Step_b1, add8]
theorem sha_Step_good (v : V8) (b : List UInt8) (h : b.length = 64) : Ev tab G0 n_sha_Step [avV v, .sl true (eB b)] [] = some ([avV (stp tabK v b), .s .nilIface], []) := by
  have h1 := sha_Words_good b h
  have hl := wordsB_len (b := b)
  have h2 := step_loop (wordsB b) hl v (i64 0) rfl 64 0 v rfl
  have h3 := step_loop1 v (rnds tabK (wordsB b) 64 0 v)
  rw [stp]
  have e0 : ((0 : Nat) : Int) = 0 := rfl
  try simp (maxSteps := 1000000) (disch := first | omega | (simp only [lens, List.length_map]; omega)) only [go_sem, ↓reduceIte, Nat.reduceSub, Nat.reduceAdd, Nat.reduceMul, Nat.reduceLeDiff, Nat.reduceLT, Nat.reduceEqDiff, Nat.reduceBEq, Int.reduceLE, Int.reduceLT, Int.reduceEq, Int.reduceNeg, Int.reduceAdd, Int.reduceSub, Int.reduceMul, Int.reduceToNat, e0] at h2
  try simp (maxSteps := 1000000) (disch := first | omega | (simp only [lens, List.length_map]; omega)) only [go_sem, ↓reduceIte, Nat.reduceSub, Nat.reduceAdd, Nat.reduceMul, Nat.reduceLeDiff, Nat.reduceLT, Nat.reduceEqDiff, Nat.reduceBEq, Int.reduceLE, Int.reduceLT, Int.reduceEq, Int.reduceNeg, Int.reduceAdd, Int.reduceSub, Int.reduceMul, Int.reduceToNat] at h3
  generalize rnds tabK (wordsB b) 64 0 v = x at *
  generalize add8 v x = y at *
  generalize wordsB b = z at *
  refine Ev_run t_sha_Step rfl rfl ?_
  simp (maxSteps := 1000000) (disch := first | omega | (simp only [lens, List.length_map]; omega)) only [go_sem, ↓reduceIte, Nat.reduceSub, Nat.reduceAdd, Nat.reduceMul, Nat.reduceLeDiff, Nat.reduceLT, Nat.reduceEqDiff, Nat.reduceBEq, Int.reduceLE, Int.reduceLT, Int.reduceEq, Int.reduceNeg, Int.reduceAdd, Int.reduceSub, Int.reduceMul, Int.reduceToNat, i_sha_Step, h1, h2, hl, h3]
/-! ### The document's -/
abbrev oTb (K : List Int) (H : V8) : Ev.Obj := .var [.sl true (eI .u32 K), u32 H.a, u32 H.b, u32 H.c, u32 H.d, u32 H.e, u32 H.f, u32 H.g, u32 H.h]
abbrev avTb (K : List Int) (H : V8) : AV := .agg [.sl true (eI .u32 K), u32 H.a, u32 H.b, u32 H.c, u32 H.d, u32 H.e, u32 H.f, u32 H.g, u32 H.h]
theorem rstep_loop (K : List Int) (hK : K.length = 64) (H : V8) (z : List Int) (hz : z.length = 64) (v : V8) : ∀ (n i : Nat) (x : V8), n + i = 64 → L_ref01_Tables_Step_0 (s_ref01_Tables_Step_K0 (.ptr 0 0) (.ptr 1 0) (.ptr 2 0) (.sl true (eI .u32 z)) (.ptr 3 0) (i64 i) [some (oTb K H), some (oV v), some (.var [u32 0, u32 0, u32 0, u32 0, u32 0, u32 0, u32 0, u32 0]), some (oV x)]) = some (.exit 0, s_ref01_Tables_Step_J0 (.ptr 1 0) (.ptr 2 0) (.ptr 3 0) [none, some (oV v), some (.var [u32 0, u32 0, u32 0, u32 0, u32 0, u32 0, u32 0, u32 0]), some (oV (rnds K z n i x))])
  | 0, i, x, h => by
    obtain rfl : i = 64 := by omega
    rw [L_ref01_Tables_Step_0_eq]
    simp (maxSteps := 1000000) (disch := first | omega | (simp only [lens, List.length_map]; omega)) only [go_sem, ↓reduceIte, Nat.reduceSub, Nat.reduceAdd, Nat.reduceMul, Nat.reduceLeDiff, Nat.reduceLT, Nat.reduceEqDiff, Nat.reduceBEq, Int.reduceLE, Int.reduceLT, Int.reduceEq, Int.reduceNeg, Int.reduceAdd, Int.reduceSub, Int.reduceMul, Int.reduceToNat, i_ref01_Tables_Step_b0, rnds]
  | n + 1, i, x, h => by
    have ih := rstep_loop K hK H z hz v n (i + 1) (rnd x (K.getD i 0) (z.getD i 0)) (by omega)
    have h1 := ref01_Round_ev x (K.getD i 0) (z.getD i 0)
    rw [L_ref01_Tables_Step_0_eq, rnds]
    generalize rnd x (K.getD i 0) (z.getD i 0) = y at *
    generalize rnds K z n (i + 1) y = y2 at *
    generalize hk : K.getD i 0 = k at *
    generalize hw : z.getD i 0 = w at *
    try simp (maxSteps := 1000000) (disch := first | omega | (simp only [lens, List.length_map]; omega)) only [go_sem, ↓reduceIte, Nat.reduceSub, Nat.reduceAdd, Nat.reduceMul, Nat.reduceLeDiff, Nat.reduceLT, Nat.reduceEqDiff, Nat.reduceBEq, Int.reduceLE, Int.reduceLT, Int.reduceEq, Int.reduceNeg, Int.reduceAdd, Int.reduceSub, Int.reduceMul, Int.reduceToNat] at ih
    simp (maxSteps := 1000000) (disch := first | omega | (simp only [lens, List.length_map]; omega)) only [go_sem, ↓reduceIte, Nat.reduceSub, Nat.reduceAdd, Nat.reduceMul, Nat.reduceLeDiff, Nat.reduceLT, Nat.reduceEqDiff, Nat.reduceBEq, Int.reduceLE, Int.reduceLT, Int.reduceEq, Int.reduceNeg, Int.reduceAdd, Int.reduceSub, Int.reduceMul, Int.reduceToNat, i_ref01_Tables_Step_b0, ih, h1, hz, hK, hk, hw]
theorem rstep_loop1 (v x : V8) : L_ref01_Tables_Step_1 (s_ref01_Tables_Step_K1 (.ptr 1 0) (.ptr 2 0) (.ptr 3 0) (i64 0) [none, some (oV v), some (.var [u32 0, u32 0, u32 0, u32 0, u32 0, u32 0, u32 0, u32 0]), some (oV x)]) = some (.exit 2, s_ref01_Tables_Step_J2 (.ptr 2 0) (.ptr 3 0) [none, none, some (.var [u32 0, u32 0, u32 0, u32 0, u32 0, u32 0, u32 0, u32 0]), some (oV (add8 x v))]) := by
  simp (maxSteps := 1000000) (disch := first | omega | (simp only [lens, List.length_map]; omega)) only [go_sem, ↓reduceIte, Nat.reduceSub, Nat.reduceAdd, Nat.reduceMul, Nat.reduceLeDiff, Nat.reduceLT, Nat.reduceEqDiff, Nat.reduceBEq, Int.reduceLE, Int.reduceLT, Int.reduceEq, Int.reduceNeg, Int.reduceAdd, Int.reduceSub, Int.reduceMul, Int.reduceToNat, L_ref01_Tables_Step_1_eq, i_ref01_Tables_Step_b1, add8]
theorem ref01_Step_ev (K : List Int) (hK : K.length = 64) (H : V8) (v : V8) (b : List UInt8) (h : b.length = 64) : Ev tab G0 n_ref01_Tables_Step [avTb K H, avV v, .sl true (eB b)] [] = some ([avV (stp K v b)], []) := by
  have h1 := ref01_Words_ev b h
  have hl := wordsB_len (b := b)
  have h2 := rstep_loop K hK H (wordsB b) hl v 64 0 v rfl
  have h3 := rstep_loop1 v (rnds K (wordsB b) 64 0 v)
  rw [stp, add8_comm]
  have e0 : ((0 : Nat) : Int) = 0 := rfl
  try simp (maxSteps := 1000000) (disch := first | omega | (simp only [lens, List.length_map]; omega)) only [go_sem, ↓reduceIte, Nat.reduceSub, Nat.reduceAdd, Nat.reduceMul, Nat.reduceLeDiff, Nat.reduceLT, Nat.reduceEqDiff, Nat.reduceBEq, Int.reduceLE, Int.reduceLT, Int.reduceEq, Int.reduceNeg, Int.reduceAdd, Int.reduceSub, Int.reduceMul, Int.reduceToNat, e0] at h2
  try simp (maxSteps := 1000000) (disch := first | omega | (simp only [lens, List.length_map]; omega)) only [go_sem, ↓reduceIte, Nat.reduceSub, Nat.reduceAdd, Nat.reduceMul, Nat.reduceLeDiff, Nat.reduceLT, Nat.reduceEqDiff, Nat.reduceBEq, Int.reduceLE, Int.reduceLT, Int.reduceEq, Int.reduceNeg, Int.reduceAdd, Int.reduceSub, Int.reduceMul, Int.reduceToNat] at h3
  generalize rnds K (wordsB b) 64 0 v = x at *
  generalize add8 x v = y at *
  generalize wordsB b = z at *
  refine Ev_run t_ref01_Tables_Step rfl rfl ?_
  simp (maxSteps := 1000000) (disch := first | omega | (simp only [lens, List.length_map]; omega)) only [go_sem, ↓reduceIte, Nat.reduceSub, Nat.reduceAdd, Nat.reduceMul, Nat.reduceLeDiff, Nat.reduceLT, Nat.reduceEqDiff, Nat.reduceBEq, Int.reduceLE, Int.reduceLT, Int.reduceEq, Int.reduceNeg, Int.reduceAdd, Int.reduceSub, Int.reduceMul, Int.reduceToNat, i_ref01_Tables_Step, h1, h2, hl, h3]

end Go.Proofs.YtdngljdbgepaiaaGreatDoor
