/-
  The tables of the document, made out of roots.
-/
import Derived.Test.YtebiajdkgpcidaaDoorLSum
import Derived.KernelRfl
set_option linter.unusedSimpArgs false
set_option linter.unusedVariables false
set_option maxRecDepth 200000
set_option maxHeartbeats 4000000
namespace Go.Proofs.YtebiajdkgpcidaaDoor
open Go.Ev

abbrev w64 (n : Int) : Int := IntKind.wrap .u64 n
theorem eI_setQ {l : List Int} {i : Nat} {n : Int} : (eI .u64 l).set i [.sc (.int .u64 n)] = eI .u64 (l.set i n) := by simp [eI, List.map_set]
theorem eI_repQ {n : Nat} : List.replicate n [C.sc (.int .u64 0)] = eI .u64 (List.replicate n 0) := by simp [eI]
def tIn (x : Int) (b : List Int) (i : Nat) : Nat → Nat → List Int → List Int
  | 0, _, o => o
  | n + 1, k, o => tIn x b i n (k + 1) (o.set (i + k) (w64 (o.getD (i + k) 0 + w64 (x * b.getD k 0))))
theorem tIn_len (x : Int) (b : List Int) (i : Nat) : ∀ (n k : Nat) (o : List Int), (tIn x b i n k o).length = o.length
  | 0, _, o => rfl
  | n + 1, k, o => by rw [tIn, tIn_len x b i n, List.length_set]
def tOut (a b : List Int) : Nat → Nat → List Int → List Int
  | 0, _, o => o
  | n + 1, i, o => tOut a b n (i + 1) (tIn (a.getD i 0) b i b.length 0 o)
theorem tOut_len (a b : List Int) : ∀ (n i : Nat) (o : List Int), (tOut a b n i o).length = o.length
  | 0, _, o => rfl
  | n + 1, i, o => by rw [tOut, tOut_len a b n, tIn_len]
def tCar : Nat → Nat → List Int → List Int
  | 0, _, o => o
  | n + 1, i, o => tCar n (i + 1) ((o.set (i + 1) (w64 (o.getD (i + 1) 0 + w64 ((o.getD i 0).tdiv 65536)))).set i (((o.set (i + 1) (w64 (o.getD (i + 1) 0 + w64 ((o.getD i 0).tdiv 65536)))).getD i 0).tmod 65536))
theorem tCar_len : ∀ (n i : Nat) (o : List Int), (tCar n i o).length = o.length
  | 0, _, o => rfl
  | n + 1, i, o => by rw [tCar, tCar_len n, List.length_set, List.length_set]
def timesP (a b : List Int) : List Int := tCar (a.length + b.length) 0 (tOut a b a.length 0 (List.replicate (a.length + b.length + 1) 0))
theorem timesP_len (a b : List Int) : (timesP a b).length = a.length + b.length + 1 := by rw [timesP, tCar_len, tOut_len, List.length_replicate]
def cmp3 (z lim : List Int) : Nat → Option Bool
  | 0 => none
  | n + 1 => if z.getD n 0 = lim.getD n 0 then cmp3 z lim n else some (decide (z.getD n 0 < lim.getD n 0))
def cmpP (z lim : List Int) (n : Nat) : Bool := (cmp3 z lim n).getD true
def dig (y : Int) : List Int := [y.tmod 65536, (w64 (y.tdiv 65536)).tmod 65536, w64 (y.tdiv 4294967296)]
def prodP (y : Int) (cube : Bool) : List Int := if cube = true then timesP (timesP (dig y) (dig y)) (dig y) else timesP (dig y) (dig y)
def limP (p : Int) (cube : Bool) : List Int := if cube = true then [0, 0, 0, 0, 0, 0, p, 0, 0, 0, 0] else [0, 0, 0, 0, p, 0, 0]
def belowP (y p : Int) (cube : Bool) : Bool := cmpP (prodP y cube) (limP p cube) (prodP y cube).length
theorem prodP_len (y : Int) (cube : Bool) : (prodP y cube).length = (limP 0 cube).length := by
  cases cube <;> simp [prodP, limP, timesP_len, dig]
/-- A root, by its bits. -/
def rootL (p : Int) (cube : Bool) : Nat → Int → Int
  | 0, x => x
  | n + 1, x => rootL p cube n (if belowP (w64 (x + 2 ^ n)) p cube = true then w64 (x + 2 ^ n) else x)
def bitI : Nat → Int
  | 0 => 0
  | n + 1 => 2 ^ n
theorem bitI_half (n : Nat) (h : n < 63) : w64 ((2 ^ n : Int) / 2) = bitI n ∧ (0 : Int) < 2 ^ n ∧ 0 ≤ bitI n := by
  have hp : (0 : Int) < 2 ^ n := Int.pow_pos (by decide)
  cases n with
  | zero => exact ⟨by decide, by decide, by decide⟩
  | succ n =>
    have hq : (0 : Int) < 2 ^ n := Int.pow_pos (by decide)
    have hu : (2 : Int) ^ n ≤ 2 ^ 62 := by
      have := Nat.pow_le_pow_right (n := 2) (by decide) (show n ≤ 62 by omega)
      exact_mod_cast this
    have e : (2 ^ (n + 1) : Int) = 2 ^ n * 2 := Int.pow_succ ..
    refine ⟨?_, hp, Int.le_of_lt hq⟩
    rw [e, Int.mul_ediv_cancel _ (by decide)]
    have h62 : (2 : Int) ^ 62 = 4611686018427387904 := by decide
    exact wrap_u64 ⟨by omega, by omega⟩
def rootP (p : Int) (cube : Bool) : Int := IntKind.wrap .u32 ((rootL p cube 36 0).tmod 4294967296)
/-! ### Primes -/
def ndiv (k : Int) (l : List Int) : Nat → Nat → Bool → Bool
  | 0, _, ok => ok
  | n + 1, i, ok => ndiv k l n (i + 1) (ok && !decide (k.tmod (l.getD i 0) = 0))
def primes : Nat → Int → List Int → List Int
  | 0, _, l => l
  | n + 1, k, l => if l.length < 64 then primes n (k + 1) (if ndiv k l l.length 0 true = true then l ++ [k] else l) else l
def rqA : List Int → AV
  | [] => .nilsl
  | b :: l => .row 2 (l.length + 1)
theorem rqA_ne {l : List Int} (h : l ≠ []) : rqA l = .row 2 l.length := by cases l with | nil => exact absurd rfl h | cons b l => rfl
abbrev oZ : Ev.Obj := .var [.nilsl, u32 0, u32 0, u32 0, u32 0, u32 0, u32 0, u32 0, u32 0]
end Go.Proofs.YtebiajdkgpcidaaDoor
