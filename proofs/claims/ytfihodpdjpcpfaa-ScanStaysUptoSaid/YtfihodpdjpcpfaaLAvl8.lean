/-
  What the laws of balanced trees share.
-/
import Derived.Test.YtfihodpdjpcpfaaLAvl7
import Derived.KernelRfl
set_option linter.unusedSimpArgs false
set_option linter.unusedVariables false
set_option maxRecDepth 200000
set_option maxHeartbeats 4000000
namespace Go.Proofs.Ytfihodpdjpcpfaa
open Go.Ev

theorem askA_cases (t : T) (k v : List UInt8) : askA t k v = 0 ∨ askA t k v = 1 ∨ askA t k v = 3 := by unfold askA; split <;> (try split) <;> simp
theorem askA_zero {t : T} {k v : List UInt8} (h : askA t k v = 0) : t.isA = true ∧ k.length ≤ 80 ∧ v.length ≤ 1024 := by
  unfold askA at h
  split at h
  · split at h
    · cases h
    · rename_i h1 h2
      exact ⟨h1, by omega, by omega⟩
  · cases h
def getT (l : List T) (k : List UInt8) : Option (List UInt8) := (l.find? fun u => decide (cmp u.key k = 0)).map T.value
theorem getT_P (b : B) (k : List UInt8) : getT b.t.list k = getP b.list k := by
  unfold getT getP
  rw [← Bt_list, List.find?_map, Option.map_map]
  rfl
theorem errV_ne {c : Int} (h : ¬ c = 0) : errV c = errA c := if_neg h
/-! ### The laws -/
end Go.Proofs.Ytfihodpdjpcpfaa
