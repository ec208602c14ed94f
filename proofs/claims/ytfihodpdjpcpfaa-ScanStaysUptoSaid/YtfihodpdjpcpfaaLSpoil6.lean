/-
  The region that writes: a byte of what is new is another; all else is as it was.
-/
import Derived.Test.YtfihodpdjpcpfaaLSpoil5
set_option linter.unusedSimpArgs false
set_option linter.unusedVariables false
set_option maxRecDepth 200000
set_option maxHeartbeats 4000000
namespace Go.Proofs.Ytfihodpdjpcpfaa
open Go.Ev

theorem masks12 : masksOk ops12 (Region.before ops12).toList = true := by kernel_rfl
theorem tsize8 : TSize Try.prog 5 1 := tsize_ok (by kernel_rfl)
theorem before12 : Region.before opsI = Region.before ops12 := by kernel_rfl
theorem opsI_size : opsI.size = 17 := by
  unfold opsI
  rw [Array.size_setIfInBounds, ops12_size]
theorem xokN : XOk Try.prog G0 := xok_no rfl
theorem gfN : G0.gf = true → ∀ g, G0.G g = [] := fun _ _ => rfl
/-- The write. -/
theorem store12_run {a : Act} {w : World} {b o : Nat} {u z : Int} (h60 : a.eval (.tmp 60) = .pointer (some ⟨b, o, none⟩)) (h59 : a.eval (.tmp 59) = .int .u8 u) (hc : w.cell? ⟨b, o, none⟩ = some (.int .u8 z)) (hf : w.frozen? ⟨b, o, none⟩ = false) :
    (execOp a.eval store12).run Try.prog w = .ok .skip (w.setCell ⟨b, o, none⟩ (.int .u8 u)) := by
  simp only [execOp, op12, Instr.storeAt, Sem.run_bind, h60, h59, Instr.sureAddr, Sem.run_pure, Result.andThen_ok, storeVar, sizeOf_run tsize8]
  have hcells : (Value.int .u8 u).cells = #[.int .u8 u] := rfl
  rw [hcells]
  simp only [List.size_toArray, List.length_cons, List.length_nil]
  rw [if_neg (by simp)]
  have hadd : (⟨b, o, none⟩ : Addr).add 0 = ⟨b, o, none⟩ := by unfold Addr.add; split <;> simp_all
  simp only [storeCells, hadd, Sem.run_bind, Sem.run_pure, Result.andThen_ok]
  simp [store, Sem.run, hc, hf]

end Go.Proofs.Ytfihodpdjpcpfaa
