/-
  A block's words, by the evaluator.
-/
import Derived.Test.YtdngljdbgepaiaaGreatDoorLNum
import Derived.Test.YtdngljdbgepaiaaGreatDoorLCode0
set_option linter.unusedSimpArgs false
set_option linter.unusedVariables false
set_option maxRecDepth 200000
set_option maxHeartbeats 4000000
namespace Go.Proofs.YtdngljdbgepaiaaGreatDoor
open Go.Ev

/-! ### Turning -/
def ror (x n : Int) : Int := orI .u32 (x.fdiv (2 ^ (min n.toNat 32))) (IntKind.wrap .u32 (x * 2 ^ (min (32 - n).toNat 32)))
theorem orI_comm (k : IntKind) (x y : Int) : orI k x y = orI k y x := by simp only [orI, BitVec.or_comm]
theorem turn_ev (x : Int) (n : Int) (h0 : 0 ≤ n ∧ n ≤ 32) : Ev tab G0 n_ref01_turn [u32 x, i64 n] [] = some ([u32 (ror x n)], []) := by
  refine Ev_run t_ref01_turn rfl rfl ?_
  have e : IntKind.bits .u32 = 32 := rfl
  simp (maxSteps := 1000000) (disch := first | omega | (simp only [lens, List.length_map]; omega)) only [go_sem, ↓reduceIte, Nat.reduceSub, Nat.reduceAdd, Nat.reduceMul, Nat.reduceLeDiff, Nat.reduceLT, Nat.reduceEqDiff, Nat.reduceBEq, Int.reduceLE, Int.reduceLT, Int.reduceEq, Int.reduceNeg, Int.reduceAdd, Int.reduceSub, Int.reduceMul, Int.reduceToNat, i_ref01_turn, ror, e]
theorem rot_ev (x m M n c : Int) (hm : IntKind.wrap .u64 m = M) (hc : andI .u64 M 31 = c) (h3 : IntKind.wrap .u64 (32 - c) = n) (h4 : 32 - n = c) (h0 : 0 ≤ n) (h1 : 0 ≤ c) : Ev tab G0 n_math_bits_RotateLeft32 [u32 x, i64 m] [] = some ([u32 (ror x n)], []) := by
  refine Ev_run t_math_bits_RotateLeft32 rfl rfl ?_
  have e : IntKind.bits .u32 = 32 := rfl
  simp (maxSteps := 1000000) (disch := first | omega | (simp only [lens, List.length_map]; omega)) only [go_sem, ↓reduceIte, Nat.reduceSub, Nat.reduceAdd, Nat.reduceMul, Nat.reduceLeDiff, Nat.reduceLT, Nat.reduceEqDiff, Nat.reduceBEq, Int.reduceLE, Int.reduceLT, Int.reduceEq, Int.reduceNeg, Int.reduceAdd, Int.reduceSub, Int.reduceMul, Int.reduceToNat, i_math_bits_RotateLeft32, ror, e, hm, hc, h3, h4, orI_comm]
theorem rot7 (x : Int) : Ev tab G0 n_math_bits_RotateLeft32 [u32 x, i64 (-7)] [] = some ([u32 (ror x 7)], []) := rot_ev x (-7) 18446744073709551609 7 25 (by decide) (by decide) (by decide) (by decide) (by decide) (by decide)
theorem rot18 (x : Int) : Ev tab G0 n_math_bits_RotateLeft32 [u32 x, i64 (-18)] [] = some ([u32 (ror x 18)], []) := rot_ev x (-18) 18446744073709551598 18 14 (by decide) (by decide) (by decide) (by decide) (by decide) (by decide)
theorem rot17 (x : Int) : Ev tab G0 n_math_bits_RotateLeft32 [u32 x, i64 (-17)] [] = some ([u32 (ror x 17)], []) := rot_ev x (-17) 18446744073709551599 17 15 (by decide) (by decide) (by decide) (by decide) (by decide) (by decide)
theorem rot19 (x : Int) : Ev tab G0 n_math_bits_RotateLeft32 [u32 x, i64 (-19)] [] = some ([u32 (ror x 19)], []) := rot_ev x (-19) 18446744073709551597 19 13 (by decide) (by decide) (by decide) (by decide) (by decide) (by decide)
/-! ### The words of the bytes -/
theorem eI_set {k : IntKind} {l : List Int} {i : Nat} {n : Int} : (eI k l).set i [.sc (.int k n)] = eI k (l.set i n) := by simp [eI, List.map_set]
theorem eI_snoc {k : IntKind} {l : List Int} {n : Int} : eI k l ++ [[.sc (.int k n)]] = eI k (l ++ [n]) := by simp [eI]
theorem eI_one {k : IntKind} {n : Int} : [[C.sc (.int k n)]] = eI k [n] := rfl
theorem eI_rep {k : IntKind} {m : Nat} {n : Int} : List.replicate m [C.sc (.int k n)] = eI k (List.replicate m n) := by simp [eI]
abbrev rowU (l : List Int) : Option Ev.Obj := some (.row ty_uint32 1 true false (eI .u32 l))
/-- A word, by a number of its bytes. -/
def wv (b : List UInt8) (k : Nat) : Nat → Int
  | 0 => 0
  | m + 1 => wv b k m * 256 + ((b.getD (4 * k + m) 0).toNat : Int)
theorem wv_low (b : List UInt8) (k : Nat) : ∀ m, 0 ≤ wv b k m ∧ wv b k m < 256 ^ m
  | 0 => by simp [wv]
  | m + 1 => by
    have h := wv_low b k m
    have h2 := (b.getD (4 * k + m) 0).toNat_lt
    simp only [wv, Int.pow_succ]
    generalize b.getD (4 * k + m) 0 = d at *
    omega
theorem wv_lt (b : List UInt8) (k m : Nat) (h : m < 4) : 0 ≤ wv b k m ∧ wv b k m < 16777216 := by
  have h1 := wv_low b k m
  have h2 : m = 0 ∨ m = 1 ∨ m = 2 ∨ m = 3 := by omega
  rcases h2 with h2 | h2 | h2 | h2 <;> subst h2 <;> simp at h1 ⊢ <;> omega
theorem wv_le (b : List UInt8) (k m : Nat) (h : m ≤ 4) : 0 ≤ wv b k m ∧ wv b k m < 4294967296 := by
  by_cases hm : m = 4
  · subst hm
    have h1 := wv_low b k 4
    simpa using h1
  · have := wv_lt b k m (by omega)
    omega
/-- The words, by a number of all the bytes. -/
def wds0 (b : List UInt8) (i : Nat) : List Int := (List.range 64).map fun k => wv b k (min 4 (i - 4 * k))
theorem wds0_len {b : List UInt8} {i : Nat} : (wds0 b i).length = 64 := by simp [wds0]
theorem wds0_get {b : List UInt8} {i : Nat} (h : i < 64) : (wds0 b i).getD (i / 4) 0 = wv b (i / 4) (i % 4) := by
  have e : min 4 (i - 4 * (i / 4)) = i % 4 := by omega
  have e2 : i / 4 < 64 := by omega
  simp [wds0, List.getD, e, e2]
theorem wds0_set {b : List UInt8} {i : Nat} (h : i < 64) : (wds0 b i).set (i / 4) (wv b (i / 4) (i % 4) * 256 + ((b.getD i 0).toNat : Int)) = wds0 b (i + 1) := by
  apply List.ext_getElem
  · simp [wds0]
  · intro k h1 h2
    simp only [wds0, List.getElem_set, List.getElem_map, List.getElem_range]
    by_cases hk : i / 4 = k
    · rw [if_pos hk]
      subst hk
      have e : min 4 (i + 1 - 4 * (i / 4)) = i % 4 + 1 := by omega
      have e2 : 4 * (i / 4) + i % 4 = i := by omega
      rw [e, wv, e2]
    · rw [if_neg hk]
      have e : min 4 (i + 1 - 4 * k) = min 4 (i - 4 * k) := by omega
      rw [e]
theorem or_low32 {a x : Int} (h : (0 ≤ a ∧ a < 16777216) ∧ 0 ≤ x ∧ x < 256) : orI .u32 (a * 256) x = a * 256 + x := by
  obtain ⟨⟨h1, h2⟩, h3, h4⟩ := h
  obtain ⟨m, rfl⟩ := Int.eq_ofNat_of_zero_le h1
  obtain ⟨n, rfl⟩ := Int.eq_ofNat_of_zero_le h3
  have hb : IntKind.bits .u32 = 32 := rfl
  have e : (BitVec.ofInt 32 ((m : Int) * 256) ||| BitVec.ofInt 32 (n : Int)).toNat = m * 256 + n := by
    have e1 : (BitVec.ofInt 32 ((m : Int) * 256)).toNat = m * 256 := by
      have : ((m : Int) * 256) = ((m * 256 : Nat) : Int) := by simp
      rw [this, BitVec.ofInt_natCast, BitVec.toNat_ofNat, Nat.mod_eq_of_lt (by omega)]
    have e2 : (BitVec.ofInt 32 (n : Int)).toNat = n := by
      rw [BitVec.ofInt_natCast, BitVec.toNat_ofNat, Nat.mod_eq_of_lt (by omega)]
    rw [BitVec.toNat_or, e1, e2]
    have := Nat.shiftLeft_add_eq_or_of_lt (b := n) (i := 8) (by omega) m
    simp only [Nat.shiftLeft_eq, show (2 : Nat) ^ 8 = 256 from rfl] at this
    omega
  show IntKind.wrap .u32 ((BitVec.ofInt 32 ((m : Int) * 256) ||| BitVec.ofInt 32 (n : Int)).toNat : Int) = _
  rw [e, wrap_u32 (by omega)]
  omega
theorem words_loop0 (b : List UInt8) (hb : b.length = 64) : ∀ (n i : Nat), n + i = 64 → L_sha_Words_0 (s_sha_Words_K0 (.row 0 64) (.sl true (eB b)) (i64 64) (i64 i) [rowU (wds0 b i)]) = some (.exit 0, s_sha_Words_J0 (.row 0 64) [rowU (wds0 b 64)])
  | 0, i, h => by
    have hi : i = 64 := by omega
    subst hi
    rw [L_sha_Words_0_eq]
    simp (maxSteps := 1000000) (disch := first | omega | (simp only [lens, List.length_map]; omega)) only [go_sem, ↓reduceIte, Nat.reduceSub, Nat.reduceAdd, Nat.reduceMul, Nat.reduceLeDiff, Nat.reduceLT, Nat.reduceEqDiff, Nat.reduceBEq, Int.reduceLE, Int.reduceLT, Int.reduceEq, Int.reduceNeg, Int.reduceAdd, Int.reduceSub, Int.reduceMul, Int.reduceToNat, i_sha_Words_b0]
  | n + 1, i, h => by
    have ih := words_loop0 b hb n (i + 1) (by omega)
    have e1 : ((i : Int) / 4).toNat = i / 4 := by omega
    have e2 := wds0_get (b := b) (i := i) (by omega)
    have e3 := wds0_set (b := b) (i := i) (by omega)
    have h4 := wv_lt b (i / 4) (i % 4) (by omega)
    have e5 : IntKind.bits .u32 = 32 := rfl
    have hd := (b.getD i 0).toNat_lt
    have hl := wds0_len (b := b) (i := i)
    rw [L_sha_Words_0_eq]
    try simp (maxSteps := 1000000) (disch := first | omega | (simp only [lens, List.length_map]; omega)) only [go_sem, ↓reduceIte, Nat.reduceSub, Nat.reduceAdd, Nat.reduceMul, Nat.reduceLeDiff, Nat.reduceLT, Nat.reduceEqDiff, Nat.reduceBEq, Int.reduceLE, Int.reduceLT, Int.reduceEq, Int.reduceNeg, Int.reduceAdd, Int.reduceSub, Int.reduceMul, Int.reduceToNat] at ih
    have e7 : (2 : Int) ^ (min 8 32) = 256 := by decide
    have hd' : 0 ≤ ((b.getD i 0).toNat : Int) ∧ ((b.getD i 0).toNat : Int) < 256 := by omega
    generalize hdd : b.getD i 0 = d at *
    generalize wv b (i / 4) (i % 4) = y at *
    have e6 := or_low32 (a := y) (x := d.toNat) (by omega)
    generalize wds0 b i = l at *
    simp (maxSteps := 1000000) (disch := first | omega | (simp only [lens, List.length_map]; omega)) only [go_sem, ↓reduceIte, Nat.reduceSub, Nat.reduceAdd, Nat.reduceMul, Nat.reduceLeDiff, Nat.reduceLT, Nat.reduceEqDiff, Nat.reduceBEq, Int.reduceLE, Int.reduceLT, Int.reduceEq, Int.reduceNeg, Int.reduceAdd, Int.reduceSub, Int.reduceMul, Int.reduceToNat, i_sha_Words_b0, ih, e1, e2, e3, e5, e6, e7, hdd, hl, eI_set]
/-! ### The words behind them -/
def sg0 (x : Int) : Int := xorI .u32 (xorI .u32 (ror x 7) (ror x 18)) (x.fdiv 8)
def sg1 (x : Int) : Int := xorI .u32 (xorI .u32 (ror x 17) (ror x 19)) (x.fdiv 1024)
def nxtW (x16 x15 x7 x2 : Int) : Int := IntKind.wrap .u32 (IntKind.wrap .u32 (IntKind.wrap .u32 (x16 + sg0 x15) + x7) + sg1 x2)
def nxt (l : List Int) : Int := nxtW (l.getD (l.length - 16) 0) (l.getD (l.length - 15) 0) (l.getD (l.length - 7) 0) (l.getD (l.length - 2) 0)
def extW : Nat → List Int → List Int
  | 0, l => l
  | n + 1, l => extW n (l ++ [nxt l])
theorem extW_len : ∀ (n : Nat) (l : List Int), (extW n l).length = l.length + n
  | 0, l => rfl
  | n + 1, l => by rw [extW, extW_len n]; simp; omega
theorem getD_app {l r : List Int} {i j : Nat} (h : i = j) (hj : j < l.length) : (l ++ r).getD i 0 = l.getD j 0 := by
  subst h
  simp [List.getD, List.getElem?_append, hj]
theorem words_loop1 : ∀ (n : Nat) (l : List Int), n + l.length = 64 → 16 ≤ l.length → L_sha_Words_1 (s_sha_Words_K1 (.row 0 64) (i64 l.length) [rowU (l ++ List.replicate n 0)]) = some (.exit 2, s_sha_Words_J2 (.row 0 64) [rowU (extW n l)])
  | 0, l, h, h2 => by
    have e : (l.length : Int) = 64 := by omega
    rw [L_sha_Words_1_eq]
    simp (maxSteps := 1000000) (disch := first | omega | (simp only [lens, List.length_map]; omega)) only [go_sem, ↓reduceIte, Nat.reduceSub, Nat.reduceAdd, Nat.reduceMul, Nat.reduceLeDiff, Nat.reduceLT, Nat.reduceEqDiff, Nat.reduceBEq, Int.reduceLE, Int.reduceLT, Int.reduceEq, Int.reduceNeg, Int.reduceAdd, Int.reduceSub, Int.reduceMul, Int.reduceToNat, i_sha_Words_b1, e, extW, List.replicate, List.append_nil]
  | n + 1, l, h, h2 => by
    have ih := words_loop1 n (l ++ [nxt l]) (by simp; omega) (by simp; omega)
    have es : (l ++ List.replicate (n + 1) (0 : Int)).set l.length (nxt l) = (l ++ [nxt l]) ++ List.replicate n 0 := by
      rw [List.set_append_right _ _ (by omega), List.replicate_succ]
      simp
    have hl : (l ++ List.replicate (n + 1) (0 : Int)).length = 64 := by simp; omega
    have g16 := getD_app (r := List.replicate (n + 1) (0 : Int)) (l := l) (i := ((l.length : Int) - 16).toNat) (j := l.length - 16) (by omega) (by omega)
    have g15 := getD_app (r := List.replicate (n + 1) (0 : Int)) (l := l) (i := ((l.length : Int) - 15).toNat) (j := l.length - 15) (by omega) (by omega)
    have g7 := getD_app (r := List.replicate (n + 1) (0 : Int)) (l := l) (i := ((l.length : Int) - 7).toNat) (j := l.length - 7) (by omega) (by omega)
    have g2 := getD_app (r := List.replicate (n + 1) (0 : Int)) (l := l) (i := ((l.length : Int) - 2).toNat) (j := l.length - 2) (by omega) (by omega)
    have p3 : (2 : Int) ^ (min 3 32) = 8 := by decide
    have p10 : (2 : Int) ^ (min 10 32) = 1024 := by decide
    have e5 : IntKind.bits .u32 = 32 := rfl
    have en : nxt l = nxtW (l.getD (l.length - 16) 0) (l.getD (l.length - 15) 0) (l.getD (l.length - 7) 0) (l.getD (l.length - 2) 0) := rfl
    simp only [nxtW, sg0, sg1] at en
    simp only [List.length_append, List.length_cons, List.length_nil] at ih
    generalize l.getD (l.length - 16) 0 = x16 at *
    generalize l.getD (l.length - 15) 0 = x15 at *
    generalize l.getD (l.length - 7) 0 = x7 at *
    generalize l.getD (l.length - 2) 0 = x2 at *
    generalize hn : nxt l = y at *
    rw [L_sha_Words_1_eq, extW, hn]
    generalize l ++ List.replicate (n + 1) 0 = z at *
    generalize (l ++ [y]) ++ List.replicate n 0 = z2 at *
    generalize extW n (l ++ [y]) = z3 at *
    generalize hm : l.length = m at *
    try simp (maxSteps := 1000000) (disch := first | omega | (simp only [lens, List.length_map]; omega)) only [go_sem, ↓reduceIte, Nat.reduceSub, Nat.reduceAdd, Nat.reduceMul, Nat.reduceLeDiff, Nat.reduceLT, Nat.reduceEqDiff, Nat.reduceBEq, Int.reduceLE, Int.reduceLT, Int.reduceEq, Int.reduceNeg, Int.reduceAdd, Int.reduceSub, Int.reduceMul, Int.reduceToNat] at ih
    simp (maxSteps := 1000000) (disch := first | omega | (simp only [lens, List.length_map]; omega)) only [go_sem, ↓reduceIte, Nat.reduceSub, Nat.reduceAdd, Nat.reduceMul, Nat.reduceLeDiff, Nat.reduceLT, Nat.reduceEqDiff, Nat.reduceBEq, Int.reduceLE, Int.reduceLT, Int.reduceEq, Int.reduceNeg, Int.reduceAdd, Int.reduceSub, Int.reduceMul, Int.reduceToNat, i_sha_Words_b1, ih, p3, p10, e5, g16, g15, g7, g2, rot7, rot18, rot17, rot19, ← en, hl, es, eI_set]
def w16 (b : List UInt8) (n : Nat) : List Int := (List.range n).map fun k => wv b k 4
theorem w16_len {b : List UInt8} {n : Nat} : (w16 b n).length = n := by simp [w16]
theorem w16_succ {b : List UInt8} {n : Nat} : w16 b n ++ [wv b n 4] = w16 b (n + 1) := by simp [w16, List.range_succ]
theorem wds0_zero {b : List UInt8} : wds0 b 0 = List.replicate 64 0 := by
  apply List.ext_getElem
  · simp [wds0]
  · intro k h1 h2
    simp only [wds0, List.getElem_map, List.getElem_range, List.getElem_replicate]
    rw [show min 4 (0 - 4 * k) = 0 by omega, wv]
theorem wds0_all {b : List UInt8} : wds0 b 64 = w16 b 16 ++ List.replicate 48 0 := by
  apply List.ext_getElem
  · simp [wds0, w16]
  · intro k h1 h2
    simp only [wds0, w16, List.getElem_append, List.getElem_map, List.getElem_range, List.getElem_replicate, List.length_map, List.length_range]
    by_cases hk : k < 16
    · rw [dif_pos hk, show min 4 (64 - 4 * k) = 4 by omega]
    · rw [dif_neg hk, show min 4 (64 - 4 * k) = 0 by omega, wv]
/-- All the words of a block. -/
def wordsB (b : List UInt8) : List Int := extW 48 (w16 b 16)
theorem wordsB_len {b : List UInt8} : (wordsB b).length = 64 := by rw [wordsB, extW_len, w16_len]
theorem sha_Words_good (b : List UInt8) (h : b.length = 64) : Ev tab G0 n_sha_Words [.sl true (eB b)] [] = some ([.sl true (eI .u32 (wordsB b)), .s .nilIface], []) := by
  have h0 := words_loop0 b h 64 0 rfl
  have h1 := words_loop1 48 (w16 b 16) (by rw [w16_len]) (by rw [w16_len]; omega)
  rw [wds0_zero, wds0_all] at h0
  have hl := wordsB_len (b := b)
  rw [← wordsB, w16_len] at h1
  generalize wordsB b = z at *
  generalize w16 b 16 ++ List.replicate 48 0 = z2 at *
  have e : List.replicate 64 [C.sc (.int .u32 0)] = eI .u32 (List.replicate 64 0) := eI_rep
  generalize List.replicate 64 (0 : Int) = z3 at *
  have e0 : ((0 : Nat) : Int) = 0 := rfl
  have e16 : ((16 : Nat) : Int) = 16 := rfl
  try simp (maxSteps := 1000000) (disch := first | omega | (simp only [lens, List.length_map]; omega)) only [go_sem, ↓reduceIte, Nat.reduceSub, Nat.reduceAdd, Nat.reduceMul, Nat.reduceLeDiff, Nat.reduceLT, Nat.reduceEqDiff, Nat.reduceBEq, Int.reduceLE, Int.reduceLT, Int.reduceEq, Int.reduceNeg, Int.reduceAdd, Int.reduceSub, Int.reduceMul, Int.reduceToNat, e0] at h0
  try simp (maxSteps := 1000000) (disch := first | omega | (simp only [lens, List.length_map]; omega)) only [go_sem, ↓reduceIte, Nat.reduceSub, Nat.reduceAdd, Nat.reduceMul, Nat.reduceLeDiff, Nat.reduceLT, Nat.reduceEqDiff, Nat.reduceBEq, Int.reduceLE, Int.reduceLT, Int.reduceEq, Int.reduceNeg, Int.reduceAdd, Int.reduceSub, Int.reduceMul, Int.reduceToNat, e16] at h1
  refine Ev_run t_sha_Words rfl rfl ?_
  simp (maxSteps := 1000000) (disch := first | omega | (simp only [lens, List.length_map]; omega)) only [go_sem, ↓reduceIte, Nat.reduceSub, Nat.reduceAdd, Nat.reduceMul, Nat.reduceLeDiff, Nat.reduceLT, Nat.reduceEqDiff, Nat.reduceBEq, Int.reduceLE, Int.reduceLT, Int.reduceEq, Int.reduceNeg, Int.reduceAdd, Int.reduceSub, Int.reduceMul, Int.reduceToNat, i_sha_Words, h, h0, h1, e, hl]
/-! ### The document's -/
theorem rwords_loop1 (b : List UInt8) (hb : b.length = 64) (i : Nat) (hi : i < 16) (t3 : AV) (hp : Heap) (hh : (t3 = .nilsl ∧ hp = [none]) ∨ ∃ l, t3 = .row 0 l.length ∧ hp = [rowU l]) : ∀ (n m : Nat), n + m = 4 → L_ref01_Words_1 (s_ref01_Words_K1 (.sl true (eB b)) t3 (i64 i) (u32 (wv b i m)) (i64 m) hp) = some (.exit 2, s_ref01_Words_J2 (.sl true (eB b)) t3 (i64 i) (u32 (wv b i 4)) hp)
  | 0, m, h => by
    have hm : m = 4 := by omega
    subst hm
    rw [L_ref01_Words_1_eq]
    rcases hh with ⟨rfl, rfl⟩ | ⟨l, rfl, rfl⟩ <;> simp (maxSteps := 1000000) (disch := first | omega | (simp only [lens, List.length_map]; omega)) only [go_sem, ↓reduceIte, Nat.reduceSub, Nat.reduceAdd, Nat.reduceMul, Nat.reduceLeDiff, Nat.reduceLT, Nat.reduceEqDiff, Nat.reduceBEq, Int.reduceLE, Int.reduceLT, Int.reduceEq, Int.reduceNeg, Int.reduceAdd, Int.reduceSub, Int.reduceMul, Int.reduceToNat, i_ref01_Words_b1]
  | n + 1, m, h => by
    have ih := rwords_loop1 b hb i hi t3 hp hh n (m + 1) (by omega)
    have hw := wv_lt b i m (by omega)
    have hw2 := wv_le b i (m + 1) (by omega)
    have e : (4 * (i : Int) + m).toNat = 4 * i + m := by omega
    have e2 : 256 * wv b i m + ((b.getD (4 * i + m) 0).toNat : Int) = wv b i (m + 1) := by rw [wv]; omega
    have hd := (b.getD (4 * i + m) 0).toNat_lt
    generalize hdd : b.getD (4 * i + m) 0 = d at *
    generalize wv b i (m + 1) = y2 at *
    generalize wv b i m = y at *
    rw [L_ref01_Words_1_eq]
    try simp (maxSteps := 1000000) (disch := first | omega | (simp only [lens, List.length_map]; omega)) only [go_sem, ↓reduceIte, Nat.reduceSub, Nat.reduceAdd, Nat.reduceMul, Nat.reduceLeDiff, Nat.reduceLT, Nat.reduceEqDiff, Nat.reduceBEq, Int.reduceLE, Int.reduceLT, Int.reduceEq, Int.reduceNeg, Int.reduceAdd, Int.reduceSub, Int.reduceMul, Int.reduceToNat] at ih
    rcases hh with ⟨rfl, rfl⟩ | ⟨l, rfl, rfl⟩ <;> simp (maxSteps := 1000000) (disch := first | omega | (simp only [lens, List.length_map]; omega)) only [go_sem, ↓reduceIte, Nat.reduceSub, Nat.reduceAdd, Nat.reduceMul, Nat.reduceLeDiff, Nat.reduceLT, Nat.reduceEqDiff, Nat.reduceBEq, Int.reduceLE, Int.reduceLT, Int.reduceEq, Int.reduceNeg, Int.reduceAdd, Int.reduceSub, Int.reduceMul, Int.reduceToNat, i_ref01_Words_b1, ih, e, e2, hb, hdd]
theorem rwords_loop0 (b : List UInt8) (hb : b.length = 64) : ∀ (n i : Nat), n + i = 16 → L_ref01_Words_0 (s_ref01_Words_K0 (.sl true (eB b)) (if i = 0 then .nilsl else .row 0 i) (i64 i) (if i = 0 then [none] else [rowU (w16 b i)])) = some (.exit 0, s_ref01_Words_J0 (.row 0 16) [rowU (w16 b 16)])
  | 0, i, h => by
    have hi : i = 16 := by omega
    subst hi
    rw [L_ref01_Words_0_eq]
    simp (maxSteps := 1000000) (disch := first | omega | (simp only [lens, List.length_map]; omega)) only [go_sem, ↓reduceIte, Nat.reduceSub, Nat.reduceAdd, Nat.reduceMul, Nat.reduceLeDiff, Nat.reduceLT, Nat.reduceEqDiff, Nat.reduceBEq, Int.reduceLE, Int.reduceLT, Int.reduceEq, Int.reduceNeg, Int.reduceAdd, Int.reduceSub, Int.reduceMul, Int.reduceToNat, i_ref01_Words_b0]
  | n + 1, i, h => by
    have ih := rwords_loop0 b hb n (i + 1) (by omega)
    have es := w16_succ (b := b) (n := i)
    have hw := wv_le b i 4 (by omega)
    have hz : wv b i 0 = 0 := rfl
    rw [if_neg (by omega), if_neg (by omega)] at ih
    by_cases h0 : i = 0
    · have hx := rwords_loop1 b hb i (by omega) .nilsl [none] (.inl ⟨rfl, rfl⟩) 4 0 rfl
      subst h0
      simp only [if_true]
      rw [hz] at hx
      have e1 : w16 b 0 = [] := rfl
      rw [e1] at es
      simp only [List.nil_append] at es
      have e0 : ((0 : Nat) : Int) = 0 := rfl
      rw [L_ref01_Words_0_eq]
      try simp (maxSteps := 1000000) (disch := first | omega | (simp only [lens, List.length_map]; omega)) only [go_sem, ↓reduceIte, Nat.reduceSub, Nat.reduceAdd, Nat.reduceMul, Nat.reduceLeDiff, Nat.reduceLT, Nat.reduceEqDiff, Nat.reduceBEq, Int.reduceLE, Int.reduceLT, Int.reduceEq, Int.reduceNeg, Int.reduceAdd, Int.reduceSub, Int.reduceMul, Int.reduceToNat, e0] at hx
      try simp (maxSteps := 1000000) (disch := first | omega | (simp only [lens, List.length_map]; omega)) only [go_sem, ↓reduceIte, Nat.reduceSub, Nat.reduceAdd, Nat.reduceMul, Nat.reduceLeDiff, Nat.reduceLT, Nat.reduceEqDiff, Nat.reduceBEq, Int.reduceLE, Int.reduceLT, Int.reduceEq, Int.reduceNeg, Int.reduceAdd, Int.reduceSub, Int.reduceMul, Int.reduceToNat, e0] at ih
      generalize wv b 0 4 = y at *
      have e2 := eI_one (k := .u32) (n := y)
      have e3 : (w16 b 1).length = 1 := w16_len
      have e4 : (eI .u32 (w16 b 1)).isEmpty = false := rfl
      generalize w16 b 1 = z at *
      simp (maxSteps := 1000000) (disch := first | omega | (simp only [lens, List.length_map]; omega)) only [go_sem, ↓reduceIte, Nat.reduceSub, Nat.reduceAdd, Nat.reduceMul, Nat.reduceLeDiff, Nat.reduceLT, Nat.reduceEqDiff, Nat.reduceBEq, Int.reduceLE, Int.reduceLT, Int.reduceEq, Int.reduceNeg, Int.reduceAdd, Int.reduceSub, Int.reduceMul, Int.reduceToNat, i_ref01_Words_b0, hx, ih, e0, e2, es, e3, e4]
    · have hl := w16_len (b := b) (n := i)
      have hx := rwords_loop1 b hb i (by omega) (.row 0 i) [rowU (w16 b i)] (.inr ⟨w16 b i, by rw [hl], rfl⟩) 4 0 rfl
      rw [if_neg h0, if_neg h0]
      rw [hz] at hx
      have e0 : ((0 : Nat) : Int) = 0 := rfl
      rw [L_ref01_Words_0_eq]
      try simp (maxSteps := 1000000) (disch := first | omega | (simp only [lens, List.length_map]; omega)) only [go_sem, ↓reduceIte, Nat.reduceSub, Nat.reduceAdd, Nat.reduceMul, Nat.reduceLeDiff, Nat.reduceLT, Nat.reduceEqDiff, Nat.reduceBEq, Int.reduceLE, Int.reduceLT, Int.reduceEq, Int.reduceNeg, Int.reduceAdd, Int.reduceSub, Int.reduceMul, Int.reduceToNat, e0] at hx
      try simp (maxSteps := 1000000) (disch := first | omega | (simp only [lens, List.length_map]; omega)) only [go_sem, ↓reduceIte, Nat.reduceSub, Nat.reduceAdd, Nat.reduceMul, Nat.reduceLeDiff, Nat.reduceLT, Nat.reduceEqDiff, Nat.reduceBEq, Int.reduceLE, Int.reduceLT, Int.reduceEq, Int.reduceNeg, Int.reduceAdd, Int.reduceSub, Int.reduceMul, Int.reduceToNat] at ih
      generalize wv b i 4 = y at *
      generalize w16 b i = l at *
      generalize w16 b (i + 1) = l2 at *
      have e2 := eI_snoc (k := .u32) (l := l) (n := y)
      rw [es] at e2
      have hl2 : l2.length = i + 1 := by rw [← es]; simp [hl]
      simp (maxSteps := 1000000) (disch := first | omega | (simp only [lens, List.length_map]; omega)) only [go_sem, ↓reduceIte, Nat.reduceSub, Nat.reduceAdd, Nat.reduceMul, Nat.reduceLeDiff, Nat.reduceLT, Nat.reduceEqDiff, Nat.reduceBEq, Int.reduceLE, Int.reduceLT, Int.reduceEq, Int.reduceNeg, Int.reduceAdd, Int.reduceSub, Int.reduceMul, Int.reduceToNat, i_ref01_Words_b0, hx, ih, e2, hl, hl2]
theorem rwords_loop2 : ∀ (n : Nat) (l : List Int), n + l.length = 64 → 16 ≤ l.length → L_ref01_Words_2 (s_ref01_Words_K2 (.row 0 l.length) (i64 l.length) [rowU l]) = some (.exit 4, s_ref01_Words_J4 (.row 0 64) [rowU (extW n l)])
  | 0, l, h, h2 => by
    have e : l.length = 64 := by omega
    have e' : (l.length : Int) = 64 := by omega
    rw [L_ref01_Words_2_eq]
    simp (maxSteps := 1000000) (disch := first | omega | (simp only [lens, List.length_map]; omega)) only [go_sem, ↓reduceIte, Nat.reduceSub, Nat.reduceAdd, Nat.reduceMul, Nat.reduceLeDiff, Nat.reduceLT, Nat.reduceEqDiff, Nat.reduceBEq, Int.reduceLE, Int.reduceLT, Int.reduceEq, Int.reduceNeg, Int.reduceAdd, Int.reduceSub, Int.reduceMul, Int.reduceToNat, i_ref01_Words_b2, e, e', extW]
  | n + 1, l, h, h2 => by
    have ih := rwords_loop2 n (l ++ [nxt l]) (by simp; omega) (by simp; omega)
    have es := eI_snoc (k := .u32) (l := l) (n := nxt l)
    have i16 : ((l.length : Int) - 16).toNat = l.length - 16 := by omega
    have i15 : ((l.length : Int) - 15).toNat = l.length - 15 := by omega
    have i7 : ((l.length : Int) - 7).toNat = l.length - 7 := by omega
    have i2 : ((l.length : Int) - 2).toNat = l.length - 2 := by omega
    have p3 : (2 : Int) ^ (min 3 32) = 8 := by decide
    have p10 : (2 : Int) ^ (min 10 32) = 1024 := by decide
    have e5 : IntKind.bits .u32 = 32 := rfl
    have en : nxt l = nxtW (l.getD (l.length - 16) 0) (l.getD (l.length - 15) 0) (l.getD (l.length - 7) 0) (l.getD (l.length - 2) 0) := rfl
    simp only [nxtW, sg0, sg1] at en
    have hl2 : (l ++ [nxt l]).length = l.length + 1 := by simp
    rw [hl2] at ih
    rw [L_ref01_Words_2_eq, extW]
    generalize h16 : l.getD (l.length - 16) 0 = x16 at *
    generalize h15 : l.getD (l.length - 15) 0 = x15 at *
    generalize h7 : l.getD (l.length - 7) 0 = x7 at *
    generalize h22 : l.getD (l.length - 2) 0 = x2 at *
    generalize nxt l = y at *
    generalize l ++ [y] = z at *
    generalize extW n z = z3 at *
    generalize hm : l.length = m at *
    try simp (maxSteps := 1000000) (disch := first | omega | (simp only [lens, List.length_map]; omega)) only [go_sem, ↓reduceIte, Nat.reduceSub, Nat.reduceAdd, Nat.reduceMul, Nat.reduceLeDiff, Nat.reduceLT, Nat.reduceEqDiff, Nat.reduceBEq, Int.reduceLE, Int.reduceLT, Int.reduceEq, Int.reduceNeg, Int.reduceAdd, Int.reduceSub, Int.reduceMul, Int.reduceToNat] at ih
    have t7 := turn_ev x15 7 (by omega)
    have t18 := turn_ev x15 18 (by omega)
    have t17 := turn_ev x2 17 (by omega)
    have t19 := turn_ev x2 19 (by omega)
    simp (maxSteps := 1000000) (disch := first | omega | (simp only [lens, List.length_map]; omega)) only [go_sem, ↓reduceIte, Nat.reduceSub, Nat.reduceAdd, Nat.reduceMul, Nat.reduceLeDiff, Nat.reduceLT, Nat.reduceEqDiff, Nat.reduceBEq, Int.reduceLE, Int.reduceLT, Int.reduceEq, Int.reduceNeg, Int.reduceAdd, Int.reduceSub, Int.reduceMul, Int.reduceToNat, i_ref01_Words_b2, ih, p3, p10, e5, i16, i15, i7, i2, h16, h15, h7, h22, t7, t18, t17, t19, ← en, hm, hl2, es]
theorem ref01_Words_ev (b : List UInt8) (h : b.length = 64) : Ev tab G0 n_ref01_Words [.sl true (eB b)] [] = some ([.sl true (eI .u32 (wordsB b))], []) := by
  have h0 := rwords_loop0 b h 16 0 rfl
  simp only [if_true] at h0
  have h1 := rwords_loop2 48 (w16 b 16) (by rw [w16_len]) (by rw [w16_len]; omega)
  have hl := wordsB_len (b := b)
  have hl2 := w16_len (b := b) (n := 16)
  rw [← wordsB, w16_len] at h1
  generalize wordsB b = z at *
  generalize w16 b 16 = z2 at *
  have e0 : ((0 : Nat) : Int) = 0 := rfl
  have e16 : ((16 : Nat) : Int) = 16 := rfl
  try simp (maxSteps := 1000000) (disch := first | omega | (simp only [lens, List.length_map]; omega)) only [go_sem, ↓reduceIte, Nat.reduceSub, Nat.reduceAdd, Nat.reduceMul, Nat.reduceLeDiff, Nat.reduceLT, Nat.reduceEqDiff, Nat.reduceBEq, Int.reduceLE, Int.reduceLT, Int.reduceEq, Int.reduceNeg, Int.reduceAdd, Int.reduceSub, Int.reduceMul, Int.reduceToNat, e0] at h0
  try simp (maxSteps := 1000000) (disch := first | omega | (simp only [lens, List.length_map]; omega)) only [go_sem, ↓reduceIte, Nat.reduceSub, Nat.reduceAdd, Nat.reduceMul, Nat.reduceLeDiff, Nat.reduceLT, Nat.reduceEqDiff, Nat.reduceBEq, Int.reduceLE, Int.reduceLT, Int.reduceEq, Int.reduceNeg, Int.reduceAdd, Int.reduceSub, Int.reduceMul, Int.reduceToNat, e16] at h1
  refine Ev_run t_ref01_Words rfl rfl ?_
  simp (maxSteps := 1000000) (disch := first | omega | (simp only [lens, List.length_map]; omega)) only [go_sem, ↓reduceIte, Nat.reduceSub, Nat.reduceAdd, Nat.reduceMul, Nat.reduceLeDiff, Nat.reduceLT, Nat.reduceEqDiff, Nat.reduceBEq, Int.reduceLE, Int.reduceLT, Int.reduceEq, Int.reduceNeg, Int.reduceAdd, Int.reduceSub, Int.reduceMul, Int.reduceToNat, i_ref01_Words, h, h0, h1, hl, hl2]

end Go.Proofs.YtdngljdbgepaiaaGreatDoor
