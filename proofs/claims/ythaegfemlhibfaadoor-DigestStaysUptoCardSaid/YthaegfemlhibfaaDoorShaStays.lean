/-
  Bytes that are handed in stay as they are, and what was answered stays: the law.
-/
import Derived.Test.YthaegfemlhibfaaDoorLSum
set_option linter.unusedSimpArgs false
set_option linter.unusedVariables false
set_option maxRecDepth 200000
set_option maxHeartbeats 4000000
namespace Go.Proofs.YthaegfemlhibfaaDoor
open Go.Ev

/-- An array of bytes. -/
def wB (l : List UInt8) : List AV := l.map fun b => u8 (b.toNat : Int)
theorem wB_len (l : List UInt8) : (wB l).length = l.length := List.length_map ..
theorem wB_refs : ∀ l : List UInt8, refsL (wB l) = []
  | [] => rfl
  | x :: l => wB_refs l
theorem wB_age (c : Bool) : ∀ l : List UInt8, ageL c (wB l) = wB l
  | [] => rfl
  | x :: l => by
    show AV.age c (u8 x.toNat) :: ageL c (wB l) = _
    rw [wB_age c l]
    rfl
theorem wB_ren (r : Nat → Nat) : ∀ l : List UInt8, renL r (wB l) = wB l
  | [] => rfl
  | x :: l => by
    show AV.ren r (u8 x.toNat) :: renL r (wB l) = _
    rw [wB_ren r l]
    rfl
theorem wB_ok : ∀ l : List UInt8, (wB l).all AV.cellOk = true
  | [] => rfl
  | x :: l => by
    show (AV.cellOk (u8 x.toNat) && (wB l).all AV.cellOk) = true
    rw [wB_ok l]
    rfl
theorem wB_canon : ∀ l : List UInt8, (wB l).map AV.canon1 = wB l
  | [] => rfl
  | x :: l => by
    show AV.canon1 (u8 x.toNat) :: (wB l).map AV.canon1 = _
    rw [wB_canon l]
    rfl
theorem wB_get {l : List UInt8} {i : Nat} (h : i < l.length) : (wB l)[i]? = some (u8 ((l.getD i 0).toNat : Int)) := by
  unfold wB
  rw [List.getElem?_map, List.getElem?_eq_getElem h]
  simp [List.getD, h]
abbrev oW (l : List UInt8) : Ev.Obj := .var (wB l)
abbrev rwB (l : List UInt8) : Ev.Obj := .row ty_uint8 1 true false (eB l)
abbrev rwF (l : List UInt8) : Ev.Obj := .row ty_uint8 1 true true (eB l)
theorem eB_one {x : UInt8} : (eB [x]).isEmpty = false := rfl
theorem take_snoc {l : List UInt8} {i : Nat} (h : i < l.length) : l.take (i + 1) = l.take i ++ [l.getD i 0] := by
  rw [List.take_add_one, List.getElem?_eq_getElem h]
  simp [List.getD, h]
theorem bytes_arr (l : List Int) (w : ∀ i ∈ l, (Lit.int .u8 i).wf = true) : ∃ y : List UInt8, l = y.map fun b => (b.toNat : Int) := by
  refine ⟨l.map byt, ?_⟩
  rw [List.map_map]
  conv => lhs; rw [← List.map_id l]
  refine List.map_congr_left fun i hi => ?_
  have h := w i hi
  simp [Lit.wf, IntKind.has, IntKind.min, IntKind.max, IntKind.signed, IntKind.bits] at h
  have := toNat_byt (n := i)
  simp only [Function.comp, id]
  rw [this]
  omega
theorem arr_eq (y : List UInt8) : ((y.map fun b => (b.toNat : Int)).map fun i => C.sc (.int .u8 i)).map (ofC true) = wB y := by
  unfold wB
  rw [List.map_map, List.map_map]
  rfl

end Go.Proofs.YthaegfemlhibfaaDoor
