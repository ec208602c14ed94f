/-
  The document's writer.
-/
import Derived.Test.YtkfaahjcncpmhaaLWr3
set_option linter.unusedSimpArgs false
set_option linter.unusedVariables false
set_option maxRecDepth 200000
set_option maxHeartbeats 4000000
namespace Go.Proofs.Ytkfaahjcncpmhaa
open Go.Ev

def Wr.rbyt (w : Wr) (x : List UInt8) (most : Int) : Wr := if most < x.length then ⟨w.b, true⟩ else ⟨w.b ++ byts x, w.bad⟩
def Wr.rmem (w : Wr) : List Int → Wr
  | [] => w
  | n :: r => Wr.rmem (w.cnts [n]) r
def Wr.rent1 (w : Wr) (e : Ent) : Wr := ((w.cnts [e.1]).cnts [e.2.1]).rbyt e.2.2 4096
def Wr.rents (w : Wr) : List Ent → Wr
  | [] => w
  | e :: r => Wr.rents (w.rent1 e) r
theorem cnt1_bad {w : Wr} {n : Int} (h : badN n = true) : w.cnts [n] = ⟨w.b, true⟩ := cnts_bad h
theorem cnt1_ok {w : Wr} {n : Int} (h : badN n = false) : w.cnts [n] = ⟨w.b ++ num n, w.bad⟩ := by rw [cnts_ok h]; rfl
theorem rbyt_ne (w : Wr) (x : List UInt8) (most : Int) (h : w.b ≠ []) : (w.rbyt x most).b ≠ [] := by
  unfold Wr.rbyt
  split
  · exact h
  · exact fun e => h (List.append_eq_nil_iff.1 e).1
theorem rbyt_len (w : Wr) (x : List UInt8) (most : Int) : (w.rbyt x most).b.length ≤ w.b.length + 9 + x.length := by
  have := byts_len x
  unfold Wr.rbyt
  split
  · simp only; omega
  · simp only [List.length_append]; omega
theorem cnt1_len (w : Wr) (n : Int) : (w.cnts [n]).b.length ≤ w.b.length + 9 := by
  have := cnts_len w [n]
  simpa using this
theorem rmem_len (w : Wr) : ∀ l : List Int, (w.rmem l).b.length ≤ w.b.length + 9 * l.length := fun l => by
  induction l generalizing w with
  | nil => simp [Wr.rmem]
  | cons n r ih =>
    have h1 := cnt1_len w n
    have h2 := ih (w.cnts [n])
    simp only [Wr.rmem, List.length_cons] at *
    omega
theorem rmem_ne (w : Wr) (h : w.b ≠ []) : ∀ l : List Int, (w.rmem l).b ≠ [] := fun l => by
  induction l generalizing w with
  | nil => exact h
  | cons n r ih => exact ih _ (cnts_ne w h _)
theorem rent1_ne (w : Wr) (h : w.b ≠ []) (e : Ent) : (w.rent1 e).b ≠ [] := rbyt_ne _ _ _ (cnts_ne _ (cnts_ne w h _) _)
theorem rent1_len (w : Wr) (e : Ent) : (w.rent1 e).b.length ≤ w.b.length + 27 + e.2.2.length := by
  have h1 := cnt1_len w e.1
  have h2 := cnt1_len (w.cnts [e.1]) e.2.1
  have h3 := rbyt_len ((w.cnts [e.1]).cnts [e.2.1]) e.2.2 4096
  unfold Wr.rent1
  omega
theorem rents_len (w : Wr) : ∀ l : List Ent, (w.rents l).b.length ≤ w.b.length + sumE l := fun l => by
  induction l generalizing w with
  | nil => simp [Wr.rents, sumE]
  | cons e r ih =>
    have h1 := rent1_len w e
    have h3 := ih (w.rent1 e)
    simp only [Wr.rents, sumE] at *
    omega
theorem rents_ne (w : Wr) (h : w.b ≠ []) : ∀ l : List Ent, (w.rents l).b ≠ [] := fun l => by
  induction l generalizing w with
  | nil => exact h
  | cons e r ih => exact ih _ (rent1_ne w h e)
end Go.Proofs.Ytkfaahjcncpmhaa
