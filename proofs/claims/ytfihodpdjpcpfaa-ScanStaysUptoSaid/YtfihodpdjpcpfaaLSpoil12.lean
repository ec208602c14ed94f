/-
  The law's contract.
-/
import Derived.Test.YtfihodpdjpcpfaaLSpoil11
set_option linter.unusedSimpArgs false
set_option linter.unusedVariables false
set_option maxRecDepth 200000
set_option maxHeartbeats 4000000
namespace Go.Proofs.Ytfihodpdjpcpfaa
open Go.Ev

def toQ (z : List KV) : List (List Int × List Int) := z.map fun p => (p.1.map fun b => (b.toNat : Int), p.2.map fun b => (b.toNat : Int))
theorem eB_eI (l : List UInt8) : eB l = eI .u8 (l.map fun b => (b.toNat : Int)) := by simp [eB, eI]
theorem eP_qP (z : List KV) : eP z = qP (toQ z) := by
  unfold eP qP toQ
  rw [List.map_map]
  refine List.map_congr_left fun p _ => ?_
  simp only [eB_eI, Function.comp_def]
theorem toQ_len (z : List KV) : (toQ z).length = z.length := by simp [toQ]
theorem toQ_small {z : List KV} {n : Nat} (h : ∀ p ∈ z, p.2.length < n) : ∀ i, i < (toQ z).length → ((toQ z).getD i ([], [])).2.length < n := fun i hi => by
  have h1 : (toQ z).getD i ([], []) = (toQ z)[i] := by simp [List.getD, List.getElem?_eq_getElem hi]
  have h2 := List.getElem_mem hi
  rw [← h1] at h2
  simp only [toQ, List.mem_map] at h2
  obtain ⟨p, hp, he⟩ := h2
  rw [show (toQ z).getD i ([], []) = _ from he.symm]
  simpa using h p hp
theorem rngL_small (t : T) (hs : t.size ≤ 1048576) (hi : t.isA = true) (f g : List UInt8) (o : Bool) : ∀ p ∈ rngL f g o t.list, p.2.length < 140737488355328 := fun p hp => by
  have hf := chk_formed (isA_chk hi)
  simp only [rngL, List.mem_map, List.mem_filter] at hp
  obtain ⟨u, ⟨hu, _⟩, rfl⟩ := hp
  have h1 := (list_mem t hf u hu).2.1
  have h2 := size_eq u
  show u.value.length < _
  omega
def rId : Code → Nat
  | .region id _ _ => id
  | _ => 0
theorem reg12 : cAt bodyC [1, 1, 1, 1, 1, 1, 0, 1, 0, 0, 1, 0, 0, 1, 0, 0, 1, 0, 0] = .region (rId (cAt bodyC [1, 1, 1, 1, 1, 1, 0, 1, 0, 0, 1, 0, 0, 1, 0, 0, 1, 0, 0])) ops12 true := by kernel_rfl
def ks (l : List Nat) : List Bool := (List.range 91).map fun i => l.contains i
/-- Values without objects. -/
theorem bare {x : Cx} {st : St} {a : Act} (hs : RelS G0 x st a) {t' : List AV} (hl : t'.length = st.t.length) (hv : ∀ i, i < t'.length → (t'.getD i .undef = .s (a.tmps.getD i undef)) ∨ t'.getD i .undef = .undef ∨ ∃ l, t'.getD i .undef = .sl false l ∧ st.t.getD i .undef = .sl false l) : RelS G0 x ⟨t', [none, none, none]⟩ a where
  inv := {
    obj := fun id o hg => by rw [noO] at hg; cases hg
    inj := fun i j oi oj gi => by rw [noO] at gi; cases gi
    own := fun id o hg => by rw [noO] at hg; cases hg
    sh := hs.inv.sh
    live := fun id o hg => by rw [noO] at hg; cases hg
    glob := fun g j c hg => by simp [G0] at hg }
  b0 := hs.b0
  size := by simpa [hl] using hs.size
  vals := fun i hi => by
    rcases hv i hi with h | h | ⟨l, h1, h2⟩
    · rw [h]; exact .s _
    · rw [h]; exact .undef _
    · rw [h1]
      have := hs.val i
      rw [h2] at this
      cases this with
      | sl _ _ _ hr => exact .sl _ _ _ hr
  live := fun id hid => by
    obtain ⟨i, h1, h2⟩ := mem_refsL_getD hid
    rcases hv i h1 with h | h | ⟨l, h, _⟩ <;> rw [h] at h2 <;> simp [AV.refs] at h2
theorem at91 {p : Nat → Prop} {t : List AV} (ht : t.length = 91) (h : ∀ i, i < 91 → p i) : ∀ i, i < t.length → p i := fun i hi => h i (by omega)
def isU : AV → Bool
  | .undef => true
  | _ => false
/-- All but the named ones are undefined. -/
def onlyAt (l : List Nat) (t : List AV) : Bool := (t.mapIdx fun i a => isU a || l.contains i).all id
theorem onlyAt_ok {l : List Nat} {t : List AV} (h : onlyAt l t = true) {i : Nat} (hi : i ∉ l) : t.getD i .undef = .undef := by
  rcases Nat.lt_or_ge i t.length with hlt | hge
  · have := List.all_eq_true.1 h (isU t[i] || l.contains i) (List.mem_of_getElem? (i := i) (by simp [hlt]))
    have h2 : l.contains i = false := by simpa using hi
    rw [h2, Bool.or_false] at this
    simp only [id] at this
    simp only [List.getD, List.getElem?_eq_getElem hlt, Option.getD_some]
    generalize t[i] = a at this
    cases a <;> simp [isU] at this
    rfl
  · simp [List.getD, List.getElem?_eq_none hge]

end Go.Proofs.Ytfihodpdjpcpfaa
