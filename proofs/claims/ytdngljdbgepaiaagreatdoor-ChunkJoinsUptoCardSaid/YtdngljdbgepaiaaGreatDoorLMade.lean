/-
  The tables of the document, made out of roots.
-/
import Derived.Test.YtdngljdbgepaiaaGreatDoorLSum
import Derived.KernelRfl
set_option linter.unusedSimpArgs false
set_option linter.unusedVariables false
set_option maxRecDepth 200000
set_option maxHeartbeats 4000000
namespace Go.Proofs.YtdngljdbgepaiaaGreatDoor
open Go.Ev

abbrev w64 (n : Int) : Int := IntKind.wrap .u64 n
abbrev rowQ (l : List Int) : Option Ev.Obj := some (.row ty_uint64 1 true false (eI .u64 l))
theorem eI_setQ {l : List Int} {i : Nat} {n : Int} : (eI .u64 l).set i [.sc (.int .u64 n)] = eI .u64 (l.set i n) := by simp [eI, List.map_set]
theorem eI_repQ {n : Nat} : List.replicate n [C.sc (.int .u64 0)] = eI .u64 (List.replicate n 0) := by simp [eI]
def tIn (x : Int) (b : List Int) (i : Nat) : Nat → Nat → List Int → List Int
  | 0, _, o => o
  | n + 1, k, o => tIn x b i n (k + 1) (o.set (i + k) (w64 (o.getD (i + k) 0 + w64 (x * b.getD k 0))))
theorem tIn_len (x : Int) (b : List Int) (i : Nat) : ∀ (n k : Nat) (o : List Int), (tIn x b i n k o).length = o.length
  | 0, _, o => rfl
  | n + 1, k, o => by rw [tIn, tIn_len x b i n, List.length_set]
def tOut (a b : List Int) : Nat → Nat → List Int → List Int
  | 0, _, o => o
  | n + 1, i, o => tOut a b n (i + 1) (tIn (a.getD i 0) b i b.length 0 o)
theorem tOut_len (a b : List Int) : ∀ (n i : Nat) (o : List Int), (tOut a b n i o).length = o.length
  | 0, _, o => rfl
  | n + 1, i, o => by rw [tOut, tOut_len a b n, tIn_len]
def tCar : Nat → Nat → List Int → List Int
  | 0, _, o => o
  | n + 1, i, o => tCar n (i + 1) ((o.set (i + 1) (w64 (o.getD (i + 1) 0 + w64 ((o.getD i 0).tdiv 65536)))).set i (((o.set (i + 1) (w64 (o.getD (i + 1) 0 + w64 ((o.getD i 0).tdiv 65536)))).getD i 0).tmod 65536))
theorem tCar_len : ∀ (n i : Nat) (o : List Int), (tCar n i o).length = o.length
  | 0, _, o => rfl
  | n + 1, i, o => by rw [tCar, tCar_len n, List.length_set, List.length_set]
def timesP (a b : List Int) : List Int := tCar (a.length + b.length) 0 (tOut a b a.length 0 (List.replicate (a.length + b.length + 1) 0))
theorem timesP_len (a b : List Int) : (timesP a b).length = a.length + b.length + 1 := by rw [timesP, tCar_len, tOut_len, List.length_replicate]
theorem times_in (a b : List Int) (i : Nat) (ha : a.length ≤ 100) (hb : b.length ≤ 100) (hi : i < a.length) : ∀ (n k : Nat) (o : List Int), n + k = b.length → o.length = a.length + b.length + 1 → L_ref01_times_1 (s_ref01_times_K1 (.sl true (eI .u64 a)) (.sl true (eI .u64 b)) (.row 0 (a.length + b.length + 1)) (i64 i) (i64 k) [rowQ o]) = some (.exit 2, s_ref01_times_J2 (.sl true (eI .u64 a)) (.sl true (eI .u64 b)) (.row 0 (a.length + b.length + 1)) (i64 i) [rowQ (tIn (a.getD i 0) b i n k o)])
  | 0, k, o, h, hl => by
    rw [L_ref01_times_1_eq]
    simp (maxSteps := 1000000) (disch := first | omega | (simp only [lens, List.length_map]; omega)) only [go_sem, ↓reduceIte, Nat.reduceSub, Nat.reduceAdd, Nat.reduceMul, Nat.reduceLeDiff, Nat.reduceLT, Nat.reduceEqDiff, Nat.reduceBEq, Int.reduceLE, Int.reduceLT, Int.reduceEq, Int.reduceNeg, Int.reduceAdd, Int.reduceSub, Int.reduceMul, Int.reduceToNat, i_ref01_times_b1, tIn]
  | n + 1, k, o, h, hl => by
    have ih := times_in a b i ha hb hi n (k + 1) (o.set (i + k) (w64 (o.getD (i + k) 0 + w64 (a.getD i 0 * b.getD k 0)))) (by omega) (by rw [List.length_set]; exact hl)
    have e1 : ((i : Int) + k).toNat = i + k := by omega
    rw [L_ref01_times_1_eq, tIn]
    generalize ho : a.length + b.length + 1 = q at *
    generalize tIn (a.getD i 0) b i n (k + 1) (o.set (i + k) (w64 (o.getD (i + k) 0 + w64 (a.getD i 0 * b.getD k 0)))) = z at *
    try simp (maxSteps := 1000000) (disch := first | omega | (simp only [lens, List.length_map]; omega)) only [go_sem, ↓reduceIte, Nat.reduceSub, Nat.reduceAdd, Nat.reduceMul, Nat.reduceLeDiff, Nat.reduceLT, Nat.reduceEqDiff, Nat.reduceBEq, Int.reduceLE, Int.reduceLT, Int.reduceEq, Int.reduceNeg, Int.reduceAdd, Int.reduceSub, Int.reduceMul, Int.reduceToNat] at ih
    simp (maxSteps := 1000000) (disch := first | omega | (simp only [lens, List.length_map]; omega)) only [go_sem, ↓reduceIte, Nat.reduceSub, Nat.reduceAdd, Nat.reduceMul, Nat.reduceLeDiff, Nat.reduceLT, Nat.reduceEqDiff, Nat.reduceBEq, Int.reduceLE, Int.reduceLT, Int.reduceEq, Int.reduceNeg, Int.reduceAdd, Int.reduceSub, Int.reduceMul, Int.reduceToNat, i_ref01_times_b1, ih, hl, e1, eI_setQ]
theorem times_out (a b : List Int) (ha : a.length ≤ 100) (hb : b.length ≤ 100) : ∀ (n i : Nat) (o : List Int), n + i = a.length → o.length = a.length + b.length + 1 → L_ref01_times_0 (s_ref01_times_K0 (.sl true (eI .u64 a)) (.sl true (eI .u64 b)) (.row 0 (a.length + b.length + 1)) (i64 i) [rowQ o]) = some (.exit 0, s_ref01_times_J0 (.row 0 (a.length + b.length + 1)) [rowQ (tOut a b n i o)])
  | 0, i, o, h, hl => by
    rw [L_ref01_times_0_eq]
    simp (maxSteps := 1000000) (disch := first | omega | (simp only [lens, List.length_map]; omega)) only [go_sem, ↓reduceIte, Nat.reduceSub, Nat.reduceAdd, Nat.reduceMul, Nat.reduceLeDiff, Nat.reduceLT, Nat.reduceEqDiff, Nat.reduceBEq, Int.reduceLE, Int.reduceLT, Int.reduceEq, Int.reduceNeg, Int.reduceAdd, Int.reduceSub, Int.reduceMul, Int.reduceToNat, i_ref01_times_b0, tOut]
  | n + 1, i, o, h, hl => by
    have ih := times_out a b ha hb n (i + 1) (tIn (a.getD i 0) b i b.length 0 o) (by omega) (by rw [tIn_len]; exact hl)
    have h1 := times_in a b i ha hb (by omega) b.length 0 o (by omega) hl
    have hz := tIn_len (a.getD i 0) b i b.length 0 o
    have e0 : ((0 : Nat) : Int) = 0 := rfl
    rw [e0] at h1
    rw [L_ref01_times_0_eq, tOut]
    generalize tIn (a.getD i 0) b i b.length 0 o = o2 at *
    generalize tOut a b n (i + 1) o2 = z at *
    generalize ho : a.length + b.length + 1 = q at *
    try simp (maxSteps := 1000000) (disch := first | omega | (simp only [lens, List.length_map]; omega)) only [go_sem, ↓reduceIte, Nat.reduceSub, Nat.reduceAdd, Nat.reduceMul, Nat.reduceLeDiff, Nat.reduceLT, Nat.reduceEqDiff, Nat.reduceBEq, Int.reduceLE, Int.reduceLT, Int.reduceEq, Int.reduceNeg, Int.reduceAdd, Int.reduceSub, Int.reduceMul, Int.reduceToNat] at ih
    try simp (maxSteps := 1000000) (disch := first | omega | (simp only [lens, List.length_map]; omega)) only [go_sem, ↓reduceIte, Nat.reduceSub, Nat.reduceAdd, Nat.reduceMul, Nat.reduceLeDiff, Nat.reduceLT, Nat.reduceEqDiff, Nat.reduceBEq, Int.reduceLE, Int.reduceLT, Int.reduceEq, Int.reduceNeg, Int.reduceAdd, Int.reduceSub, Int.reduceMul, Int.reduceToNat] at h1
    simp (maxSteps := 1000000) (disch := first | omega | (simp only [lens, List.length_map]; omega)) only [go_sem, ↓reduceIte, Nat.reduceSub, Nat.reduceAdd, Nat.reduceMul, Nat.reduceLeDiff, Nat.reduceLT, Nat.reduceEqDiff, Nat.reduceBEq, Int.reduceLE, Int.reduceLT, Int.reduceEq, Int.reduceNeg, Int.reduceAdd, Int.reduceSub, Int.reduceMul, Int.reduceToNat, i_ref01_times_b0, ih, h1, hl, hz]
theorem times_car (q : Nat) (hq : q ≤ 200) : ∀ (n i : Nat) (o : List Int), n + i = q → o.length = q + 1 → L_ref01_times_2 (s_ref01_times_K2 (.row 0 (q + 1)) (i64 i) [rowQ o]) = some (.exit 4, s_ref01_times_J4 (.row 0 (q + 1)) [rowQ (tCar n i o)])
  | 0, i, o, h, hl => by
    rw [L_ref01_times_2_eq]
    simp (maxSteps := 1000000) (disch := first | omega | (simp only [lens, List.length_map]; omega)) only [go_sem, ↓reduceIte, Nat.reduceSub, Nat.reduceAdd, Nat.reduceMul, Nat.reduceLeDiff, Nat.reduceLT, Nat.reduceEqDiff, Nat.reduceBEq, Int.reduceLE, Int.reduceLT, Int.reduceEq, Int.reduceNeg, Int.reduceAdd, Int.reduceSub, Int.reduceMul, Int.reduceToNat, i_ref01_times_b2, tCar]
  | n + 1, i, o, h, hl => by
    have ih := times_car q hq n (i + 1) ((o.set (i + 1) (w64 (o.getD (i + 1) 0 + w64 ((o.getD i 0).tdiv 65536)))).set i (((o.set (i + 1) (w64 (o.getD (i + 1) 0 + w64 ((o.getD i 0).tdiv 65536)))).getD i 0).tmod 65536)) (by omega) (by rw [List.length_set, List.length_set]; exact hl)
    have e1 : ((i : Int) + 1).toNat = i + 1 := by omega
    have hs := List.length_set (as := o) (i := i + 1) (a := w64 (o.getD (i + 1) 0 + w64 ((o.getD i 0).tdiv 65536)))
    rw [hl] at hs
    rw [L_ref01_times_2_eq, tCar]
    generalize ho : o.set (i + 1) (w64 (o.getD (i + 1) 0 + w64 ((o.getD i 0).tdiv 65536))) = o1 at *
    have hs2 := List.length_set (as := o1) (i := i) (a := (o1.getD i 0).tmod 65536)
    rw [hs] at hs2
    generalize ho2 : o1.set i ((o1.getD i 0).tmod 65536) = o2 at *
    generalize tCar n (i + 1) o2 = z at *
    generalize hq1 : q + 1 = q1 at *
    try simp (maxSteps := 1000000) (disch := first | omega | (simp only [lens, List.length_map]; omega)) only [go_sem, ↓reduceIte, Nat.reduceSub, Nat.reduceAdd, Nat.reduceMul, Nat.reduceLeDiff, Nat.reduceLT, Nat.reduceEqDiff, Nat.reduceBEq, Int.reduceLE, Int.reduceLT, Int.reduceEq, Int.reduceNeg, Int.reduceAdd, Int.reduceSub, Int.reduceMul, Int.reduceToNat] at ih
    simp (maxSteps := 1000000) (disch := first | omega | (simp only [lens, List.length_map]; omega)) only [go_sem, ↓reduceIte, Nat.reduceSub, Nat.reduceAdd, Nat.reduceMul, Nat.reduceLeDiff, Nat.reduceLT, Nat.reduceEqDiff, Nat.reduceBEq, Int.reduceLE, Int.reduceLT, Int.reduceEq, Int.reduceNeg, Int.reduceAdd, Int.reduceSub, Int.reduceMul, Int.reduceToNat, i_ref01_times_b2, ih, hl, hs, hs2, e1, eI_setQ, ho, ho2]
theorem ref01_times_ev (a b : List Int) (ha : a.length ≤ 100) (hb : b.length ≤ 100) : Ev tab G0 n_ref01_times [.sl true (eI .u64 a), .sl true (eI .u64 b)] [] = some ([.sl true (eI .u64 (timesP a b))], []) := by
  have h1 := times_out a b ha hb a.length 0 (List.replicate (a.length + b.length + 1) 0) (by omega) (by rw [List.length_replicate])
  have h2 := times_car (a.length + b.length) (by omega) (a.length + b.length) 0 (tOut a b a.length 0 (List.replicate (a.length + b.length + 1) 0)) (by omega) (by rw [tOut_len, List.length_replicate])
  have e0 : ((0 : Nat) : Int) = 0 := rfl
  have hl := timesP_len a b
  rw [← timesP] at h2
  rw [e0] at h1 h2
  generalize timesP a b = z at *
  generalize tOut a b a.length 0 (List.replicate (a.length + b.length + 1) 0) = z1 at *
  have e1 : ((a.length : Int) + b.length + 1).toNat = a.length + b.length + 1 := by omega
  have e2 : (a.length : Int) + b.length + 1 = ((a.length + b.length + 1 : Nat) : Int) := by omega
  have e3 := eI_repQ (n := a.length + b.length + 1)
  have e4 : (List.replicate (a.length + b.length + 1) (0 : Int)).length = a.length + b.length + 1 := List.length_replicate
  generalize List.replicate (a.length + b.length + 1) (0 : Int) = r at *
  generalize hq : a.length + b.length + 1 = q at *
  try simp (maxSteps := 1000000) (disch := first | omega | (simp only [lens, List.length_map]; omega)) only [go_sem, ↓reduceIte, Nat.reduceSub, Nat.reduceAdd, Nat.reduceMul, Nat.reduceLeDiff, Nat.reduceLT, Nat.reduceEqDiff, Nat.reduceBEq, Int.reduceLE, Int.reduceLT, Int.reduceEq, Int.reduceNeg, Int.reduceAdd, Int.reduceSub, Int.reduceMul, Int.reduceToNat] at h1
  try simp (maxSteps := 1000000) (disch := first | omega | (simp only [lens, List.length_map]; omega)) only [go_sem, ↓reduceIte, Nat.reduceSub, Nat.reduceAdd, Nat.reduceMul, Nat.reduceLeDiff, Nat.reduceLT, Nat.reduceEqDiff, Nat.reduceBEq, Int.reduceLE, Int.reduceLT, Int.reduceEq, Int.reduceNeg, Int.reduceAdd, Int.reduceSub, Int.reduceMul, Int.reduceToNat] at h2
  refine Ev_run t_ref01_times rfl rfl ?_
  simp (maxSteps := 1000000) (disch := first | omega | (simp only [lens, List.length_map]; omega)) only [go_sem, ↓reduceIte, Nat.reduceSub, Nat.reduceAdd, Nat.reduceMul, Nat.reduceLeDiff, Nat.reduceLT, Nat.reduceEqDiff, Nat.reduceBEq, Int.reduceLE, Int.reduceLT, Int.reduceEq, Int.reduceNeg, Int.reduceAdd, Int.reduceSub, Int.reduceMul, Int.reduceToNat, i_ref01_times, h1, h2, hl, e1, e3, e4]
def cmp3 (z lim : List Int) : Nat → Option Bool
  | 0 => none
  | n + 1 => if z.getD n 0 = lim.getD n 0 then cmp3 z lim n else some (decide (z.getD n 0 < lim.getD n 0))
def cmpP (z lim : List Int) (n : Nat) : Bool := (cmp3 z lim n).getD true
def belR : Option Bool → Option (Ev.Ex × St)
  | none => some (.exit 0, s_ref01_below_J0 [none])
  | some b => some (.ret, s_ref01_below_R (bo b) [none])
theorem below_loop (z lim : List Int) (hl : lim.length = z.length) (hz : z.length ≤ 1000) : ∀ n : Nat, n ≤ z.length → L_ref01_below_0 (s_ref01_below_K0 (.sl true (eI .u64 z)) (.row 0 z.length) (i64 ((n : Int) - 1)) [rowQ lim]) = belR (cmp3 z lim n)
  | 0, h => by
    rw [L_ref01_below_0_eq]
    simp (maxSteps := 1000000) (disch := first | omega | (simp only [lens, List.length_map]; omega)) only [go_sem, ↓reduceIte, Nat.reduceSub, Nat.reduceAdd, Nat.reduceMul, Nat.reduceLeDiff, Nat.reduceLT, Nat.reduceEqDiff, Nat.reduceBEq, Int.reduceLE, Int.reduceLT, Int.reduceEq, Int.reduceNeg, Int.reduceAdd, Int.reduceSub, Int.reduceMul, Int.reduceToNat, i_ref01_below_b0, cmp3, belR]
  | n + 1, h => by
    have ih := below_loop z lim hl hz n (by omega)
    have e1 : ((n + 1 : Nat) : Int) - 1 = n := by omega
    rw [L_ref01_below_0_eq, e1, cmp3]
    by_cases hc : z.getD n 0 = lim.getD n 0
    · rw [if_pos hc, ← ih]
      simp (maxSteps := 1000000) (disch := first | omega | (simp only [lens, List.length_map]; omega)) only [go_sem, ↓reduceIte, Nat.reduceSub, Nat.reduceAdd, Nat.reduceMul, Nat.reduceLeDiff, Nat.reduceLT, Nat.reduceEqDiff, Nat.reduceBEq, Int.reduceLE, Int.reduceLT, Int.reduceEq, Int.reduceNeg, Int.reduceAdd, Int.reduceSub, Int.reduceMul, Int.reduceToNat, i_ref01_below_b0, hl, hc]
    · rw [if_neg hc]
      simp (maxSteps := 1000000) (disch := first | omega | (simp only [lens, List.length_map]; omega)) only [go_sem, ↓reduceIte, Nat.reduceSub, Nat.reduceAdd, Nat.reduceMul, Nat.reduceLeDiff, Nat.reduceLT, Nat.reduceEqDiff, Nat.reduceBEq, Int.reduceLE, Int.reduceLT, Int.reduceEq, Int.reduceNeg, Int.reduceAdd, Int.reduceSub, Int.reduceMul, Int.reduceToNat, i_ref01_below_b0, hl, hc, belR]
def dig (y : Int) : List Int := [y.tmod 65536, (w64 (y.tdiv 65536)).tmod 65536, w64 (y.tdiv 4294967296)]
def prodP (y : Int) (cube : Bool) : List Int := if cube = true then timesP (timesP (dig y) (dig y)) (dig y) else timesP (dig y) (dig y)
def limP (p : Int) (cube : Bool) : List Int := if cube = true then [0, 0, 0, 0, 0, 0, p, 0, 0, 0, 0] else [0, 0, 0, 0, p, 0, 0]
def belowP (y p : Int) (cube : Bool) : Bool := cmpP (prodP y cube) (limP p cube) (prodP y cube).length
theorem prodP_len (y : Int) (cube : Bool) : (prodP y cube).length = (limP 0 cube).length := by
  cases cube <;> simp [prodP, limP, timesP_len, dig]
theorem ref01_below_ev (y p : Int) (cube : Bool) : Ev tab G0 n_ref01_below [u64 y, u64 p, bo cube] [] = some ([bo (belowP y p cube)], []) := by
  have h1 := ref01_times_ev (dig y) (dig y) (by simp [dig]) (by simp [dig])
  have hp := prodP_len y cube
  have hb := below_loop (prodP y cube) (limP p cube) (by rw [hp]; cases cube <;> rfl) (by rw [hp]; cases cube <;> decide) (prodP y cube).length (Nat.le_refl _)
  rw [belowP, cmpP]
  cases cube
  · have e3 : (prodP y false).length = 7 := hp
    simp only [prodP, limP, Bool.false_eq_true, if_false] at hb e3 ⊢
    rw [e3] at hb ⊢
    generalize timesP (dig y) (dig y) = z at *
    have e4 : eI .u64 (dig y) = [[.sc (.int .u64 (y.tmod 65536))], [.sc (.int .u64 ((w64 (y.tdiv 65536)).tmod 65536))], [.sc (.int .u64 (w64 (y.tdiv 4294967296)))]] := rfl
    rw [e4] at h1
    have e5 : ∀ l, eI .u64 [0, 0, 0, 0, l, 0, 0] = [[.sc (.int .u64 0)], [.sc (.int .u64 0)], [.sc (.int .u64 0)], [.sc (.int .u64 0)], [.sc (.int .u64 l)], [.sc (.int .u64 0)], [.sc (.int .u64 0)]] := fun l => rfl
    have e6 : (([0, 0, 0, 0, p, 0, 0] : List Int)).length = 7 := rfl
    simp only [rowQ, e5] at hb
    generalize hcc : cmp3 z [0, 0, 0, 0, p, 0, 0] 7 = c at *
    refine Ev_run t_ref01_below rfl rfl ?_
    cases c with
    | none => try simp (maxSteps := 1000000) (disch := first | omega | (simp only [lens, List.length_map]; omega)) only [go_sem, ↓reduceIte, Nat.reduceSub, Nat.reduceAdd, Nat.reduceMul, Nat.reduceLeDiff, Nat.reduceLT, Nat.reduceEqDiff, Nat.reduceBEq, Int.reduceLE, Int.reduceLT, Int.reduceEq, Int.reduceNeg, Int.reduceAdd, Int.reduceSub, Int.reduceMul, Int.reduceToNat, belR] at hb
              simp (maxSteps := 1000000) (disch := first | omega | (simp only [lens, List.length_map]; omega)) only [go_sem, ↓reduceIte, Nat.reduceSub, Nat.reduceAdd, Nat.reduceMul, Nat.reduceLeDiff, Nat.reduceLT, Nat.reduceEqDiff, Nat.reduceBEq, Int.reduceLE, Int.reduceLT, Int.reduceEq, Int.reduceNeg, Int.reduceAdd, Int.reduceSub, Int.reduceMul, Int.reduceToNat, i_ref01_below, h1, e3, hb, Option.getD_none]
    | some b => try simp (maxSteps := 1000000) (disch := first | omega | (simp only [lens, List.length_map]; omega)) only [go_sem, ↓reduceIte, Nat.reduceSub, Nat.reduceAdd, Nat.reduceMul, Nat.reduceLeDiff, Nat.reduceLT, Nat.reduceEqDiff, Nat.reduceBEq, Int.reduceLE, Int.reduceLT, Int.reduceEq, Int.reduceNeg, Int.reduceAdd, Int.reduceSub, Int.reduceMul, Int.reduceToNat, belR] at hb
                simp (maxSteps := 1000000) (disch := first | omega | (simp only [lens, List.length_map]; omega)) only [go_sem, ↓reduceIte, Nat.reduceSub, Nat.reduceAdd, Nat.reduceMul, Nat.reduceLeDiff, Nat.reduceLT, Nat.reduceEqDiff, Nat.reduceBEq, Int.reduceLE, Int.reduceLT, Int.reduceEq, Int.reduceNeg, Int.reduceAdd, Int.reduceSub, Int.reduceMul, Int.reduceToNat, i_ref01_below, h1, e3, hb, Option.getD_none]
  · have e3 : (prodP y true).length = 11 := hp
    have h2 := ref01_times_ev (timesP (dig y) (dig y)) (dig y) (by rw [timesP_len]; simp [dig]) (by simp [dig])
    simp only [prodP, limP, if_true] at hb e3 ⊢
    rw [e3] at hb ⊢
    generalize timesP (timesP (dig y) (dig y)) (dig y) = z at *
    generalize timesP (dig y) (dig y) = z0 at *
    have e4 : eI .u64 (dig y) = [[.sc (.int .u64 (y.tmod 65536))], [.sc (.int .u64 ((w64 (y.tdiv 65536)).tmod 65536))], [.sc (.int .u64 (w64 (y.tdiv 4294967296)))]] := rfl
    rw [e4] at h1 h2
    have e5 : ∀ l, eI .u64 [0, 0, 0, 0, 0, 0, l, 0, 0, 0, 0] = [[.sc (.int .u64 0)], [.sc (.int .u64 0)], [.sc (.int .u64 0)], [.sc (.int .u64 0)], [.sc (.int .u64 0)], [.sc (.int .u64 0)], [.sc (.int .u64 l)], [.sc (.int .u64 0)], [.sc (.int .u64 0)], [.sc (.int .u64 0)], [.sc (.int .u64 0)]] := fun l => rfl
    simp only [rowQ, e5] at hb
    generalize hcc : cmp3 z [0, 0, 0, 0, 0, 0, p, 0, 0, 0, 0] 11 = c at *
    refine Ev_run t_ref01_below rfl rfl ?_
    cases c with
    | none => try simp (maxSteps := 1000000) (disch := first | omega | (simp only [lens, List.length_map]; omega)) only [go_sem, ↓reduceIte, Nat.reduceSub, Nat.reduceAdd, Nat.reduceMul, Nat.reduceLeDiff, Nat.reduceLT, Nat.reduceEqDiff, Nat.reduceBEq, Int.reduceLE, Int.reduceLT, Int.reduceEq, Int.reduceNeg, Int.reduceAdd, Int.reduceSub, Int.reduceMul, Int.reduceToNat, belR] at hb
              simp (maxSteps := 1000000) (disch := first | omega | (simp only [lens, List.length_map]; omega)) only [go_sem, ↓reduceIte, Nat.reduceSub, Nat.reduceAdd, Nat.reduceMul, Nat.reduceLeDiff, Nat.reduceLT, Nat.reduceEqDiff, Nat.reduceBEq, Int.reduceLE, Int.reduceLT, Int.reduceEq, Int.reduceNeg, Int.reduceAdd, Int.reduceSub, Int.reduceMul, Int.reduceToNat, i_ref01_below, h1, h2, e3, hb, Option.getD_none]
    | some b => try simp (maxSteps := 1000000) (disch := first | omega | (simp only [lens, List.length_map]; omega)) only [go_sem, ↓reduceIte, Nat.reduceSub, Nat.reduceAdd, Nat.reduceMul, Nat.reduceLeDiff, Nat.reduceLT, Nat.reduceEqDiff, Nat.reduceBEq, Int.reduceLE, Int.reduceLT, Int.reduceEq, Int.reduceNeg, Int.reduceAdd, Int.reduceSub, Int.reduceMul, Int.reduceToNat, belR] at hb
                simp (maxSteps := 1000000) (disch := first | omega | (simp only [lens, List.length_map]; omega)) only [go_sem, ↓reduceIte, Nat.reduceSub, Nat.reduceAdd, Nat.reduceMul, Nat.reduceLeDiff, Nat.reduceLT, Nat.reduceEqDiff, Nat.reduceBEq, Int.reduceLE, Int.reduceLT, Int.reduceEq, Int.reduceNeg, Int.reduceAdd, Int.reduceSub, Int.reduceMul, Int.reduceToNat, i_ref01_below, h1, h2, e3, hb, Option.getD_none]
/-- A root, by its bits. -/
def rootL (p : Int) (cube : Bool) : Nat → Int → Int
  | 0, x => x
  | n + 1, x => rootL p cube n (if belowP (w64 (x + 2 ^ n)) p cube = true then w64 (x + 2 ^ n) else x)
def bitI : Nat → Int
  | 0 => 0
  | n + 1 => 2 ^ n
theorem bitI_half (n : Nat) (h : n < 63) : w64 ((2 ^ n : Int) / 2) = bitI n ∧ (0 : Int) < 2 ^ n ∧ 0 ≤ bitI n := by
  have hp : (0 : Int) < 2 ^ n := Int.pow_pos (by decide)
  cases n with
  | zero => exact ⟨by decide, by decide, by decide⟩
  | succ n =>
    have hq : (0 : Int) < 2 ^ n := Int.pow_pos (by decide)
    have hu : (2 : Int) ^ n ≤ 2 ^ 62 := by
      have := Nat.pow_le_pow_right (n := 2) (by decide) (show n ≤ 62 by omega)
      exact_mod_cast this
    have e : (2 ^ (n + 1) : Int) = 2 ^ n * 2 := Int.pow_succ ..
    refine ⟨?_, hp, Int.le_of_lt hq⟩
    rw [e, Int.mul_ediv_cancel _ (by decide)]
    have h62 : (2 : Int) ^ 62 = 4611686018427387904 := by decide
    exact wrap_u64 ⟨by omega, by omega⟩
theorem root_loop (p : Int) (cube : Bool) : ∀ (n : Nat), n ≤ 36 → ∀ x : Int, L_ref01_root_0 (s_ref01_root_K0 (u64 p) (bo cube) (u64 x) (u64 (bitI n)) []) = some (.exit 0, s_ref01_root_J0 (u64 (rootL p cube n x)) [])
  | 0, hn, x => by
    rw [L_ref01_root_0_eq]
    simp (maxSteps := 1000000) (disch := first | omega | (simp only [lens, List.length_map]; omega)) only [go_sem, ↓reduceIte, Nat.reduceSub, Nat.reduceAdd, Nat.reduceMul, Nat.reduceLeDiff, Nat.reduceLT, Nat.reduceEqDiff, Nat.reduceBEq, Int.reduceLE, Int.reduceLT, Int.reduceEq, Int.reduceNeg, Int.reduceAdd, Int.reduceSub, Int.reduceMul, Int.reduceToNat, i_ref01_root_b0, rootL, bitI]
  | n + 1, hn, x => by
    have ih := root_loop p cube n (by omega) (if belowP (w64 (x + 2 ^ n)) p cube = true then w64 (x + 2 ^ n) else x)
    have h1 := ref01_below_ev (w64 (x + 2 ^ n)) p cube
    obtain ⟨h2, h3, h4⟩ := bitI_half n (by omega)
    rw [L_ref01_root_0_eq, rootL, bitI]
    generalize (2 : Int) ^ n = b at *
    generalize bitI n = b2 at *
    generalize hy : w64 (x + b) = y at *
    cases hc : belowP y p cube
    · rw [hc] at h1
      simp only [hc, Bool.false_eq_true, if_false] at ih ⊢
      generalize rootL p cube n x = z at *
      simp (maxSteps := 1000000) (disch := first | omega | (simp only [lens, List.length_map]; omega)) only [go_sem, ↓reduceIte, Nat.reduceSub, Nat.reduceAdd, Nat.reduceMul, Nat.reduceLeDiff, Nat.reduceLT, Nat.reduceEqDiff, Nat.reduceBEq, Int.reduceLE, Int.reduceLT, Int.reduceEq, Int.reduceNeg, Int.reduceAdd, Int.reduceSub, Int.reduceMul, Int.reduceToNat, i_ref01_root_b0, hy, h1, ih, h2, h3]
    · rw [hc] at h1
      simp only [hc, if_true] at ih ⊢
      generalize rootL p cube n y = z at *
      simp (maxSteps := 1000000) (disch := first | omega | (simp only [lens, List.length_map]; omega)) only [go_sem, ↓reduceIte, Nat.reduceSub, Nat.reduceAdd, Nat.reduceMul, Nat.reduceLeDiff, Nat.reduceLT, Nat.reduceEqDiff, Nat.reduceBEq, Int.reduceLE, Int.reduceLT, Int.reduceEq, Int.reduceNeg, Int.reduceAdd, Int.reduceSub, Int.reduceMul, Int.reduceToNat, i_ref01_root_b0, hy, h1, ih, h2, h3]
def rootP (p : Int) (cube : Bool) : Int := IntKind.wrap .u32 ((rootL p cube 36 0).tmod 4294967296)
theorem ref01_root_ev (p : Int) (cube : Bool) : Ev tab G0 n_ref01_root [u64 p, bo cube] [] = some ([u32 (rootP p cube)], []) := by
  have h1 := root_loop p cube 36 (by omega) 0
  have e : bitI 36 = 34359738368 := by decide
  rw [e] at h1
  rw [rootP]
  generalize rootL p cube 36 0 = z at *
  try simp (maxSteps := 1000000) (disch := first | omega | (simp only [lens, List.length_map]; omega)) only [go_sem, ↓reduceIte, Nat.reduceSub, Nat.reduceAdd, Nat.reduceMul, Nat.reduceLeDiff, Nat.reduceLT, Nat.reduceEqDiff, Nat.reduceBEq, Int.reduceLE, Int.reduceLT, Int.reduceEq, Int.reduceNeg, Int.reduceAdd, Int.reduceSub, Int.reduceMul, Int.reduceToNat] at h1
  refine Ev_run t_ref01_root rfl rfl ?_
  simp (maxSteps := 1000000) (disch := first | omega | (simp only [lens, List.length_map]; omega)) only [go_sem, ↓reduceIte, Nat.reduceSub, Nat.reduceAdd, Nat.reduceMul, Nat.reduceLeDiff, Nat.reduceLT, Nat.reduceEqDiff, Nat.reduceBEq, Int.reduceLE, Int.reduceLT, Int.reduceEq, Int.reduceNeg, Int.reduceAdd, Int.reduceSub, Int.reduceMul, Int.reduceToNat, i_ref01_root, h1]
/-! ### Primes -/
def ndiv (k : Int) (l : List Int) : Nat → Nat → Bool → Bool
  | 0, _, ok => ok
  | n + 1, i, ok => ndiv k l n (i + 1) (ok && !decide (k.tmod (l.getD i 0) = 0))
def primes : Nat → Int → List Int → List Int
  | 0, _, l => l
  | n + 1, k, l => if l.length < 64 then primes n (k + 1) (if ndiv k l l.length 0 true = true then l ++ [k] else l) else l
def rqA : List Int → AV
  | [] => .nilsl
  | b :: l => .row 2 (l.length + 1)
def rqO : List Int → Option Ev.Obj
  | [] => none
  | b :: l => some (.row ty_uint64 1 true false (eI .u64 (b :: l)))
theorem rqA_ne {l : List Int} (h : l ≠ []) : rqA l = .row 2 l.length := by cases l with | nil => exact absurd rfl h | cons b l => rfl
theorem rqO_ne {l : List Int} (h : l ≠ []) : rqO l = rowQ l := by cases l with | nil => exact absurd rfl h | cons b l => rfl
abbrev oZ : Ev.Obj := .var [.nilsl, u32 0, u32 0, u32 0, u32 0, u32 0, u32 0, u32 0, u32 0]
theorem made_in (k : Int) (l : List Int) (hne : l ≠ []) (hl : l.length ≤ 64) (hz : ∀ i, i < l.length → l.getD i 0 ≠ 0) : ∀ (n i : Nat) (ok : Bool), n + i = l.length → L_ref01_Made_1 (s_ref01_Made_K1 (.ptr 0 0) (.ptr 1 0) (rqA l) (u64 k) (bo ok) (i64 i) [some oZ, some oZ, rqO l, none]) = some (.exit 2, s_ref01_Made_J2 (.ptr 0 0) (.ptr 1 0) (rqA l) (u64 k) (bo (ndiv k l n i ok)) [some oZ, some oZ, rqO l, none])
  | 0, i, ok, h => by
    rw [L_ref01_Made_1_eq, rqA_ne hne, rqO_ne hne]
    simp (maxSteps := 1000000) (disch := first | omega | (simp only [lens, List.length_map]; omega)) only [go_sem, ↓reduceIte, Nat.reduceSub, Nat.reduceAdd, Nat.reduceMul, Nat.reduceLeDiff, Nat.reduceLT, Nat.reduceEqDiff, Nat.reduceBEq, Int.reduceLE, Int.reduceLT, Int.reduceEq, Int.reduceNeg, Int.reduceAdd, Int.reduceSub, Int.reduceMul, Int.reduceToNat, i_ref01_Made_b1, ndiv]
  | n + 1, i, ok, h => by
    have ih := made_in k l hne hl hz n (i + 1) (ok && !decide (k.tmod (l.getD i 0) = 0)) (by omega)
    have h0 := hz i (by omega)
    rw [L_ref01_Made_1_eq, ndiv]
    rw [rqA_ne hne, rqO_ne hne] at *
    generalize hx : l.getD i 0 = x at *
    cases ok
    · simp only [Bool.false_and] at ih ⊢
      generalize ndiv k l n (i + 1) false = z at *
      try simp (maxSteps := 1000000) (disch := first | omega | (simp only [lens, List.length_map]; omega)) only [go_sem, ↓reduceIte, Nat.reduceSub, Nat.reduceAdd, Nat.reduceMul, Nat.reduceLeDiff, Nat.reduceLT, Nat.reduceEqDiff, Nat.reduceBEq, Int.reduceLE, Int.reduceLT, Int.reduceEq, Int.reduceNeg, Int.reduceAdd, Int.reduceSub, Int.reduceMul, Int.reduceToNat] at ih
      simp (maxSteps := 1000000) (disch := first | omega | (simp only [lens, List.length_map]; omega)) only [go_sem, ↓reduceIte, Nat.reduceSub, Nat.reduceAdd, Nat.reduceMul, Nat.reduceLeDiff, Nat.reduceLT, Nat.reduceEqDiff, Nat.reduceBEq, Int.reduceLE, Int.reduceLT, Int.reduceEq, Int.reduceNeg, Int.reduceAdd, Int.reduceSub, Int.reduceMul, Int.reduceToNat, i_ref01_Made_b1, ih, hx]
    · simp only [Bool.true_and] at ih ⊢
      generalize hd : (!decide (k.tmod x = 0)) = d at *
      generalize ndiv k l n (i + 1) d = z at *
      try simp (maxSteps := 1000000) (disch := first | omega | (simp only [lens, List.length_map]; omega)) only [go_sem, ↓reduceIte, Nat.reduceSub, Nat.reduceAdd, Nat.reduceMul, Nat.reduceLeDiff, Nat.reduceLT, Nat.reduceEqDiff, Nat.reduceBEq, Int.reduceLE, Int.reduceLT, Int.reduceEq, Int.reduceNeg, Int.reduceAdd, Int.reduceSub, Int.reduceMul, Int.reduceToNat] at ih
      simp (maxSteps := 1000000) (disch := first | omega | (simp only [lens, List.length_map]; omega)) only [go_sem, ↓reduceIte, Nat.reduceSub, Nat.reduceAdd, Nat.reduceMul, Nat.reduceLeDiff, Nat.reduceLT, Nat.reduceEqDiff, Nat.reduceBEq, Int.reduceLE, Int.reduceLT, Int.reduceEq, Int.reduceNeg, Int.reduceAdd, Int.reduceSub, Int.reduceMul, Int.reduceToNat, i_ref01_Made_b1, ih, hx, hd]
theorem made_in0 (k : Int) (l : List Int) (hl : l.length ≤ 64) (hz : ∀ i, i < l.length → l.getD i 0 ≠ 0) : L_ref01_Made_1 (s_ref01_Made_K1 (.ptr 0 0) (.ptr 1 0) (rqA l) (u64 k) (bo true) (i64 0) [some oZ, some oZ, rqO l, none]) = some (.exit 2, s_ref01_Made_J2 (.ptr 0 0) (.ptr 1 0) (rqA l) (u64 k) (bo (ndiv k l l.length 0 true)) [some oZ, some oZ, rqO l, none]) := by
  by_cases hne : l = []
  · subst hne
    rw [L_ref01_Made_1_eq]
    simp (maxSteps := 1000000) (disch := first | omega | (simp only [lens, List.length_map]; omega)) only [go_sem, ↓reduceIte, Nat.reduceSub, Nat.reduceAdd, Nat.reduceMul, Nat.reduceLeDiff, Nat.reduceLT, Nat.reduceEqDiff, Nat.reduceBEq, Int.reduceLE, Int.reduceLT, Int.reduceEq, Int.reduceNeg, Int.reduceAdd, Int.reduceSub, Int.reduceMul, Int.reduceToNat, i_ref01_Made_b1, ndiv, rqA, rqO]
  · exact made_in k l hne hl hz l.length 0 true rfl
theorem made_out : ∀ (n : Nat) (k : Int) (l : List Int), (∀ i, i < l.length → l.getD i 0 ≠ 0) → 1 ≤ k → k + n ≤ 100000 → l.length ≤ 64 → (primes n k l).length = 64 → ∃ _u : Unit, L_ref01_Made_0 (s_ref01_Made_K0 (.ptr 0 0) (.ptr 1 0) (rqA l) (u64 k) [some oZ, some oZ, rqO l, none]) = some (.exit 0, s_ref01_Made_J0 (.ptr 0 0) (.ptr 1 0) (.row 2 64) [some oZ, some oZ, rowQ (primes n k l), none])
  | 0, k, l, hz, hk, hkn, hl, h => by
    refine ⟨(), ?_⟩
    rw [primes] at h
    have hne : l ≠ [] := by rintro rfl; simp at h
    rw [L_ref01_Made_0_eq, rqA_ne hne, rqO_ne hne]
    simp (maxSteps := 1000000) (disch := first | omega | (simp only [lens, List.length_map]; omega)) only [go_sem, ↓reduceIte, Nat.reduceSub, Nat.reduceAdd, Nat.reduceMul, Nat.reduceLeDiff, Nat.reduceLT, Nat.reduceEqDiff, Nat.reduceBEq, Int.reduceLE, Int.reduceLT, Int.reduceEq, Int.reduceNeg, Int.reduceAdd, Int.reduceSub, Int.reduceMul, Int.reduceToNat, i_ref01_Made_b0, primes, h]
  | n + 1, k, l, hz, hk, hkn, hl, h => by
    refine ⟨(), ?_⟩
    by_cases hlt : l.length < 64
    · have h1 := made_in0 k l (by omega) hz
      rw [primes, if_pos hlt] at h ⊢
      cases hc : ndiv k l l.length 0 true
      · rw [hc] at h1
        simp only [hc, Bool.false_eq_true, if_false] at h ⊢
        obtain ⟨_, ih⟩ := made_out n (k + 1) l hz (by omega) (by omega) (by omega) h
        generalize primes n (k + 1) l = z at *
        rw [L_ref01_Made_0_eq]
        by_cases hne : l = []
        · subst hne
          try simp (maxSteps := 1000000) (disch := first | omega | (simp only [lens, List.length_map]; omega)) only [go_sem, ↓reduceIte, Nat.reduceSub, Nat.reduceAdd, Nat.reduceMul, Nat.reduceLeDiff, Nat.reduceLT, Nat.reduceEqDiff, Nat.reduceBEq, Int.reduceLE, Int.reduceLT, Int.reduceEq, Int.reduceNeg, Int.reduceAdd, Int.reduceSub, Int.reduceMul, Int.reduceToNat, rqA, rqO] at ih
          try simp (maxSteps := 1000000) (disch := first | omega | (simp only [lens, List.length_map]; omega)) only [go_sem, ↓reduceIte, Nat.reduceSub, Nat.reduceAdd, Nat.reduceMul, Nat.reduceLeDiff, Nat.reduceLT, Nat.reduceEqDiff, Nat.reduceBEq, Int.reduceLE, Int.reduceLT, Int.reduceEq, Int.reduceNeg, Int.reduceAdd, Int.reduceSub, Int.reduceMul, Int.reduceToNat, rqA, rqO] at h1
          simp (maxSteps := 1000000) (disch := first | omega | (simp only [lens, List.length_map]; omega)) only [go_sem, ↓reduceIte, Nat.reduceSub, Nat.reduceAdd, Nat.reduceMul, Nat.reduceLeDiff, Nat.reduceLT, Nat.reduceEqDiff, Nat.reduceBEq, Int.reduceLE, Int.reduceLT, Int.reduceEq, Int.reduceNeg, Int.reduceAdd, Int.reduceSub, Int.reduceMul, Int.reduceToNat, i_ref01_Made_b0, rqA, rqO, h1, ih]
        · rw [rqA_ne hne, rqO_ne hne] at *
          try simp (maxSteps := 1000000) (disch := first | omega | (simp only [lens, List.length_map]; omega)) only [go_sem, ↓reduceIte, Nat.reduceSub, Nat.reduceAdd, Nat.reduceMul, Nat.reduceLeDiff, Nat.reduceLT, Nat.reduceEqDiff, Nat.reduceBEq, Int.reduceLE, Int.reduceLT, Int.reduceEq, Int.reduceNeg, Int.reduceAdd, Int.reduceSub, Int.reduceMul, Int.reduceToNat] at ih
          try simp (maxSteps := 1000000) (disch := first | omega | (simp only [lens, List.length_map]; omega)) only [go_sem, ↓reduceIte, Nat.reduceSub, Nat.reduceAdd, Nat.reduceMul, Nat.reduceLeDiff, Nat.reduceLT, Nat.reduceEqDiff, Nat.reduceBEq, Int.reduceLE, Int.reduceLT, Int.reduceEq, Int.reduceNeg, Int.reduceAdd, Int.reduceSub, Int.reduceMul, Int.reduceToNat] at h1
          simp (maxSteps := 1000000) (disch := first | omega | (simp only [lens, List.length_map]; omega)) only [go_sem, ↓reduceIte, Nat.reduceSub, Nat.reduceAdd, Nat.reduceMul, Nat.reduceLeDiff, Nat.reduceLT, Nat.reduceEqDiff, Nat.reduceBEq, Int.reduceLE, Int.reduceLT, Int.reduceEq, Int.reduceNeg, Int.reduceAdd, Int.reduceSub, Int.reduceMul, Int.reduceToNat, i_ref01_Made_b0, h1, ih]
      · rw [hc] at h1
        simp only [hc, if_true] at h ⊢
        have hz' : ∀ i, i < (l ++ [k]).length → (l ++ [k]).getD i 0 ≠ 0 := fun i hi => by
          simp only [List.length_append, List.length_cons, List.length_nil] at hi
          by_cases hil : i < l.length
          · have := hz i hil
            simpa [List.getD, List.getElem?_append_left hil] using this
          · obtain rfl : i = l.length := by omega
            simp [List.getD]
            omega
        obtain ⟨_, ih⟩ := made_out n (k + 1) (l ++ [k]) hz' (by omega) (by omega) (by simp; omega) h
        have hl2 : (l ++ [k]).length = l.length + 1 := by simp
        have es := eI_snoc (k := .u64) (l := l) (n := k)
        rw [rqA_ne (by simp), rqO_ne (by simp), hl2] at ih
        generalize primes n (k + 1) (l ++ [k]) = z at *
        rw [L_ref01_Made_0_eq]
        by_cases hne : l = []
        · subst hne
          have e1 := eI_one (k := .u64) (n := k)
          have e4 : ([] ++ [k] : List Int) = [k] := rfl
          have e5 : (eI .u64 [k]).isEmpty = false := rfl
          rw [e4] at ih
          have e6 : ([] : List Int).length + 1 = 1 := rfl
          rw [e6] at ih
          try simp (maxSteps := 1000000) (disch := first | omega | (simp only [lens, List.length_map]; omega)) only [go_sem, ↓reduceIte, Nat.reduceSub, Nat.reduceAdd, Nat.reduceMul, Nat.reduceLeDiff, Nat.reduceLT, Nat.reduceEqDiff, Nat.reduceBEq, Int.reduceLE, Int.reduceLT, Int.reduceEq, Int.reduceNeg, Int.reduceAdd, Int.reduceSub, Int.reduceMul, Int.reduceToNat, rqA, rqO] at h1
          simp (maxSteps := 1000000) (disch := first | omega | (simp only [lens, List.length_map]; omega)) only [go_sem, ↓reduceIte, Nat.reduceSub, Nat.reduceAdd, Nat.reduceMul, Nat.reduceLeDiff, Nat.reduceLT, Nat.reduceEqDiff, Nat.reduceBEq, Int.reduceLE, Int.reduceLT, Int.reduceEq, Int.reduceNeg, Int.reduceAdd, Int.reduceSub, Int.reduceMul, Int.reduceToNat, i_ref01_Made_b0, rqA, rqO, h1, ih, e1, e5]
        · rw [rqA_ne hne, rqO_ne hne] at *
          generalize l ++ [k] = l2 at *
          try simp (maxSteps := 1000000) (disch := first | omega | (simp only [lens, List.length_map]; omega)) only [go_sem, ↓reduceIte, Nat.reduceSub, Nat.reduceAdd, Nat.reduceMul, Nat.reduceLeDiff, Nat.reduceLT, Nat.reduceEqDiff, Nat.reduceBEq, Int.reduceLE, Int.reduceLT, Int.reduceEq, Int.reduceNeg, Int.reduceAdd, Int.reduceSub, Int.reduceMul, Int.reduceToNat] at ih
          try simp (maxSteps := 1000000) (disch := first | omega | (simp only [lens, List.length_map]; omega)) only [go_sem, ↓reduceIte, Nat.reduceSub, Nat.reduceAdd, Nat.reduceMul, Nat.reduceLeDiff, Nat.reduceLT, Nat.reduceEqDiff, Nat.reduceBEq, Int.reduceLE, Int.reduceLT, Int.reduceEq, Int.reduceNeg, Int.reduceAdd, Int.reduceSub, Int.reduceMul, Int.reduceToNat] at h1
          simp (maxSteps := 1000000) (disch := first | omega | (simp only [lens, List.length_map]; omega)) only [go_sem, ↓reduceIte, Nat.reduceSub, Nat.reduceAdd, Nat.reduceMul, Nat.reduceLeDiff, Nat.reduceLT, Nat.reduceEqDiff, Nat.reduceBEq, Int.reduceLE, Int.reduceLT, Int.reduceEq, Int.reduceNeg, Int.reduceAdd, Int.reduceSub, Int.reduceMul, Int.reduceToNat, i_ref01_Made_b0, h1, ih, es, hl2]
    · have h64 : l.length = 64 := by omega
      have hne : l ≠ [] := by rintro rfl; simp at h64
      rw [L_ref01_Made_0_eq, rqA_ne hne, rqO_ne hne, primes, if_neg hlt]
      simp (maxSteps := 1000000) (disch := first | omega | (simp only [lens, List.length_map]; omega)) only [go_sem, ↓reduceIte, Nat.reduceSub, Nat.reduceAdd, Nat.reduceMul, Nat.reduceLeDiff, Nat.reduceLT, Nat.reduceEqDiff, Nat.reduceBEq, Int.reduceLE, Int.reduceLT, Int.reduceEq, Int.reduceNeg, Int.reduceAdd, Int.reduceSub, Int.reduceMul, Int.reduceToNat, i_ref01_Made_b0, h64]

end Go.Proofs.YtdngljdbgepaiaaGreatDoor
