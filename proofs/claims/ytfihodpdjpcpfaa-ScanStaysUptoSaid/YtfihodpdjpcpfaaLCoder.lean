/-
  coder.Bytes, and a reader, by the evaluator.
-/
import Derived.Test.YtfihodpdjpcpfaaLNum
import Derived.Test.YtfihodpdjpcpfaaLClone
import Derived.Test.YtfihodpdjpcpfaaLCode0
set_option linter.unusedSimpArgs false
set_option linter.unusedVariables false
set_option maxRecDepth 200000
set_option maxHeartbeats 4000000
namespace Go.Proofs.Ytfihodpdjpcpfaa
open Go.Ev

/-- Bytes' bytes. -/
def byts (b : List UInt8) : List UInt8 := num b.length ++ b
theorem byts_len (b : List UInt8) : (byts b).length ≤ b.length + 9 := by
  have := num_len b.length
  simp [byts]; omega
/-- A reader: what is left; whether something was amiss. -/
structure Rd where
  b : List UInt8
  bad : Bool
abbrev rO (r : Rd) : Ev.Obj := .var [.sl true (eB r.b), bo r.bad]
def Rd.take (r : Rd) (n : Int) : List UInt8 × Rd := if r.bad = true then ([], ⟨r.b, true⟩) else if r.b.length < n then ([], ⟨r.b, true⟩) else (r.b.take n.toNat, ⟨r.b.drop n.toNat, false⟩)
theorem Rd.take_le (r : Rd) (n : Int) : (r.take n).1.length ≤ r.b.length ∧ (r.take n).1.length ≤ n.toNat ∧ (r.take n).2.b.length ≤ r.b.length := by
  unfold Rd.take
  split
  · simp
  · split
    · simp
    · simp
      omega
def Rd.byte (r : Rd) : UInt8 × Rd := ((r.take 1).1.getD 0 0, (r.take 1).2)
/-- A number, by its bytes. -/
def beV (l : List UInt8) : Int := l.foldl (fun v x => v * 256 + x.toNat) 0
def Rd.num (r : Rd) : Int × Rd :=
  if r.byte.1.toNat ≤ 247 then (r.byte.1.toNat, r.byte.2) else
  let q := r.byte.2.take (r.byte.1.toNat - 247)
  if q.1.length = 0 ∨ q.1.getD 0 0 = 0 ∨ beV q.1 ≤ 247 then (0, ⟨q.2.b, true⟩) else (beV q.1, q.2)
theorem beV_snoc (l : List UInt8) (x : UInt8) : beV (l ++ [x]) = beV l * 256 + x.toNat := by simp [beV]
theorem beV_nn : ∀ (l : List UInt8), 0 ≤ beV l ∧ beV l < 256 ^ l.length := by
  intro l
  have key : ∀ (n : Nat) (l : List UInt8), l.length = n → 0 ≤ beV l ∧ beV l < 256 ^ n := by
    intro n
    induction n with
    | zero => intro l h; simp at h; subst h; simp [beV]
    | succ n ih =>
      intro l h
      rcases List.eq_nil_or_concat l with rfl | ⟨l', x, rfl⟩
      · simp at h
      · simp at h
        obtain ⟨h1, h2⟩ := ih l' h
        have := x.toNat_lt
        rw [List.concat_eq_append, beV_snoc, Int.pow_succ]
        omega
  exact key _ l rfl
theorem beV_lt {l : List UInt8} {n : Nat} (h : l.length ≤ n) (hn : n ≤ 8) : 0 ≤ beV l ∧ beV l < 256 ^ n := by
  have := beV_nn l
  have h2 := Nat.pow_le_pow_right (n := 256) (by decide) h
  exact ⟨this.1, Int.lt_of_lt_of_le this.2 (by exact_mod_cast h2)⟩
theorem take_snoc {l : List UInt8} {i : Nat} (h : i < l.length) : l.take (i + 1) = l.take i ++ [l.getD i 0] := by
  rw [List.take_add_one, List.getElem?_eq_getElem h]
  simp [List.getD, h]
theorem u8z {x : UInt8} : ((x.toNat : Int) = 0) = (x = 0) := by
  refine propext ⟨fun h => ?_, fun h => by subst h; rfl⟩
  have h2 : x.toNat = 0 := by omega
  exact UInt8.toNat_inj.1 (by simpa using h2)
theorem Rd.byte_le (r : Rd) : r.byte.2.b.length ≤ r.b.length := (r.take_le 1).2.2
theorem Rd.num_le (r : Rd) : r.num.2.b.length ≤ r.b.length ∧ 0 ≤ r.num.1 ∧ r.num.1 < 18446744073709551616 := by
  have h2 := r.byte_le
  simp only [Rd.num]
  have hc := r.byte.1.toNat_lt
  split
  · simp only; omega
  · rename_i h1
    have h4 := r.byte.2.take_le (r.byte.1.toNat - 247)
    have h5 := beV_lt (l := (r.byte.2.take (r.byte.1.toNat - 247)).1) (n := 8) (by omega) (by omega)
    split
    · simp only; omega
    · simp only; omega
def Rd.bytes (r : Rd) (most : Int) : List UInt8 × Rd := let q := r.num
  if q.2.bad = true ∨ most < 0 ∨ most < q.1 ∨ q.2.b.length < q.1 then ([], ⟨q.2.b, true⟩) else q.2.take q.1
def Rd.fin (r : Rd) : Int := if r.bad = true then 3 else if r.b.length > 0 then 4 else 0
end Go.Proofs.Ytfihodpdjpcpfaa
