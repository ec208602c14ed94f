/-
  coder.Bytes, and a reader, by the evaluator.
-/
import Derived.Test.YtdngljdbgepaiaaGreatDoorLNum
import Derived.Test.YtdngljdbgepaiaaGreatDoorLClone
import Derived.Test.YtdngljdbgepaiaaGreatDoorLCode0
set_option linter.unusedSimpArgs false
set_option linter.unusedVariables false
set_option maxRecDepth 200000
set_option maxHeartbeats 4000000
namespace Go.Proofs.YtdngljdbgepaiaaGreatDoor
open Go.Ev

/-- Bytes' bytes. -/
def byts (b : List UInt8) : List UInt8 := num b.length ++ b
theorem byts_len (b : List UInt8) : (byts b).length ≤ b.length + 9 := by
  have := num_len b.length
  simp [byts]; omega
theorem coder_Bytes_ev (b : List UInt8) (h : b.length ≤ 1073741824) : Ev tab G0 n_coder_Bytes [.sl true (eB b)] [] = some ([.sl true (eB (byts b))], []) := by
  have h1 := coder_Number_ev b.length (by omega)
  have h2 := num_len b.length
  refine Ev_run t_coder_Bytes rfl rfl ?_
  simp (maxSteps := 1000000) (disch := first | omega | (simp only [lens, List.length_map]; omega)) only [go_sem, ↓reduceIte, Nat.reduceSub, Nat.reduceAdd, Nat.reduceMul, Nat.reduceLeDiff, Nat.reduceLT, Nat.reduceEqDiff, Nat.reduceBEq, Int.reduceLE, Int.reduceLT, Int.reduceEq, Int.reduceNeg, Int.reduceAdd, Int.reduceSub, Int.reduceMul, Int.reduceToNat, i_coder_Bytes, h1, byts]
theorem ref02_Bytes_ev (b : List UInt8) (h : b.length ≤ 1073741824) : Ev tab G0 n_ref02_Bytes [.sl true (eB b)] [] = some ([.sl true (eB (byts b))], []) := by
  have h1 := ref02_Number_ev b.length (by omega)
  have h2 := num_len b.length
  refine Ev_run t_ref02_Bytes rfl rfl ?_
  simp (maxSteps := 1000000) (disch := first | omega | (simp only [lens, List.length_map]; omega)) only [go_sem, ↓reduceIte, Nat.reduceSub, Nat.reduceAdd, Nat.reduceMul, Nat.reduceLeDiff, Nat.reduceLT, Nat.reduceEqDiff, Nat.reduceBEq, Int.reduceLE, Int.reduceLT, Int.reduceEq, Int.reduceNeg, Int.reduceAdd, Int.reduceSub, Int.reduceMul, Int.reduceToNat, i_ref02_Bytes, h1, byts]

/-- A reader: what is left; whether something was amiss. -/
structure Rd where
  b : List UInt8
  bad : Bool
abbrev rO (r : Rd) : Ev.Obj := .var [.sl true (eB r.b), bo r.bad]
def Rd.take (r : Rd) (n : Int) : List UInt8 × Rd := if r.bad = true then ([], ⟨r.b, true⟩) else if r.b.length < n then ([], ⟨r.b, true⟩) else (r.b.take n.toNat, ⟨r.b.drop n.toNat, false⟩)
theorem Rd.take_le (r : Rd) (n : Int) : (r.take n).1.length ≤ r.b.length ∧ (r.take n).1.length ≤ n.toNat ∧ (r.take n).2.b.length ≤ r.b.length := by
  unfold Rd.take
  split
  · simp
  · split
    · simp
    · simp
      omega
def Rd.byte (r : Rd) : UInt8 × Rd := ((r.take 1).1.getD 0 0, (r.take 1).2)
/-- A number, by its bytes. -/
def beV (l : List UInt8) : Int := l.foldl (fun v x => v * 256 + x.toNat) 0
def Rd.num (r : Rd) : Int × Rd :=
  if r.byte.1.toNat ≤ 247 then (r.byte.1.toNat, r.byte.2) else
  let q := r.byte.2.take (r.byte.1.toNat - 247)
  if q.1.length = 0 ∨ q.1.getD 0 0 = 0 ∨ beV q.1 ≤ 247 then (0, ⟨q.2.b, true⟩) else (beV q.1, q.2)
theorem beV_snoc (l : List UInt8) (x : UInt8) : beV (l ++ [x]) = beV l * 256 + x.toNat := by simp [beV]
theorem Rd.byte_le (r : Rd) : r.byte.2.b.length ≤ r.b.length := (r.take_le 1).2.2
def Rd.bytes (r : Rd) (most : Int) : List UInt8 × Rd := let q := r.num
  if q.2.bad = true ∨ most < 0 ∨ most < q.1 ∨ q.2.b.length < q.1 then ([], ⟨q.2.b, true⟩) else q.2.take q.1
def Rd.fin (r : Rd) : Int := if r.bad = true then 3 else if r.b.length > 0 then 4 else 0
end Go.Proofs.YtdngljdbgepaiaaGreatDoor
