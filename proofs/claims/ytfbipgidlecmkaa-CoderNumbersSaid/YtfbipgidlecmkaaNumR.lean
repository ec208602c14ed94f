/-
  CoderNumbers: any number's bytes: the law answers true, whatever comes in; what came in reads as it did.
-/
import Derived.Test.YtfbipgidlecmkaaNumL
import Derived.Test.YtfbipgidlecmkaaRows
set_option linter.unusedSimpArgs false
set_option linter.unusedVariables false
namespace Go.Proofs.Ytfbipgidlecmkaa
open Go.Ev Go.ChangeShapes Go.WideShapes Go.ChangeAt Go.RowKit
theorem own : ownKnob Try.prog.godebug = none := by kernel_rfl
theorem laidOut : laidOutB Try.prog = true := by kernel_rfl
theorem tysOk : tyOk Try.prog [34] = true := by kernel_rfl

set_option maxRecDepth 100000 in
theorem coderNumbers_lifted (os : Os) (started : os.Started) (H : Type) (enc : TypeId × Value → H) :
    ReturnsInHanded {} Try.checked os 5 .any (Rows.coderNumbersSpec.pre6 enc Try.prog Try.f5 Rows.coderNumbersRow.domain false) (Rows.coderNumbersSpec.post enc Try.prog Try.f5 false true false false) := by
  refine returnsInHanded_of_change_sized (C := Try.checked) own started (by kernel_rfl) Try.func5
    (ChangeSpec.witness6 (enc := enc) (C := Try.checked) false ⟨#[], #[.int .u64 0], []⟩ 8 (by kernel_rfl) (by kernel_rfl) (by kernel_rfl) (by kernel_rfl)) ?_
  intro W base args ds gs before hval hW _ _ _
  refine law_post (tb := 4) tabOk laidOut tysOk (by rw [Try.params5]; simp) (by kernel_rfl) (by kernel_rfl) Try.underlying4 rfl (fun ds hds => ?_) hval hW fun xs hlen has => ?_
  · rw [Try.params5] at hds
    match ds, hds with
    | [a], _ => rfl
  · rw [Try.params5] at hlen has
    match xs, hlen with
    | [a1], _ =>
      obtain ⟨n1, e1, h1, t1⟩ := has 0 34 rfl
      simp only [List.getElem?_cons_zero, Option.some.injEq] at h1
      obtain ⟨v, rfl, hw⟩ := typ_int Try.underlying34 t1
      simp only [avOf, Try.underlying34, ofC, av1] at h1
      subst h1
      have hb : 0 ≤ v ∧ v < 18446744073709551616 := by
        simp [Lit.wf, IntKind.has, IntKind.min, IntKind.max, IntKind.signed, IntKind.bits] at hw
        omega
      exact ⟨[], law_numbers v hb.1 hb.2⟩

theorem coderNumbers_over : Rows.coderNumbersRow.holds Try.pinned (OpenSpec.ofChange Rows.coderNumbersSpec) :=
  OpenClaim.holds_of_wide 5 Try.f5 rfl rfl rfl rfl rfl rfl rfl ⟨rfl, rfl, rfl, rfl, rfl⟩ rfl rfl rfl rfl rfl (by kernel_rfl) Try.func5 (by kernel_rfl)
    (of_decide_eq_true (by kernel_rfl)) (by unfold Func.isWrapper; first | (rw [if_pos (by decide +kernel)]; kernel_rfl) | (rw [if_neg (by decide +kernel)]; exact ⟨rfl, rfl⟩))
    (fun os started H enc _ => coderNumbers_lifted os started H enc)
/-- The row, under a short name, for the claim. -/
theorem coderNumbers_holds : Rows.CoderNumbersSaid := coderNumbers_over
#print axioms coderNumbers_holds
end Go.Proofs.Ytfbipgidlecmkaa
