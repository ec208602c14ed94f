/-
  ShaRounds: a round of any words: the law answers true, whatever comes in; what came in reads as it did.
-/
import Derived.Test.YtfbipgidlecmkaaShaT
import Derived.Test.YtfbipgidlecmkaaEvLaw
import Derived.Test.YtfbipgidlecmkaaRows
set_option linter.unusedSimpArgs false
set_option linter.unusedVariables false
namespace Go.Proofs.Ytfbipgidlecmkaa
open Go.Ev Go.ChangeShapes Go.WideShapes Go.ChangeAt Go.RowKit
theorem own : ownKnob Try.prog.godebug = none := by kernel_rfl
theorem laidOut : laidOutB Try.prog = true := by kernel_rfl
theorem tysOk : tyOk Try.prog [23, 22] = true := by kernel_rfl

theorem list8 {α : Type} {l : List α} (h : l.length = 8) : ∃ a b c d e f g i, l = [a, b, c, d, e, f, g, i] := by
  match l, h with
  | [a, b, c, d, e, f, g, i], _ => exact ⟨a, b, c, d, e, f, g, i, rfl⟩

set_option maxRecDepth 100000 in
theorem shaRounds_lifted (os : Os) (started : os.Started) (H : Type) (enc : TypeId × Value → H) :
    ReturnsInHanded {} Try.checked os 3 .any (Rows.shaRoundsSpec.pre6 enc Try.prog Try.f3 Rows.shaRoundsRow.domain false) (Rows.shaRoundsSpec.post enc Try.prog Try.f3 false true false false) := by
  refine returnsInHanded_of_change_sized (C := Try.checked) own started (by kernel_rfl) Try.func3
    (ChangeSpec.witness6 (enc := enc) (C := Try.checked) false ⟨#[], #[.agg #[.int .u32 0, .int .u32 0, .int .u32 0, .int .u32 0, .int .u32 0, .int .u32 0, .int .u32 0, .int .u32 0], .int .u32 0, .int .u32 0], []⟩ 8 (by kernel_rfl) (by kernel_rfl) (by kernel_rfl) (by kernel_rfl)) ?_
  intro W base args ds gs before hval hW _ _ _
  refine law_post (tb := 4) tabOk laidOut tysOk (by rw [Try.params3]; simp) (by kernel_rfl) (by kernel_rfl) Try.underlying4 rfl (fun ds hds => ?_) hval hW fun xs hlen has => ?_
  · rw [Try.params3] at hds
    match ds, hds with
    | [a, b, c], _ => rfl
  · rw [Try.params3] at hlen has
    match xs, hlen with
    | [a1, a2, a3], _ =>
      obtain ⟨n1, e1, h1, t1⟩ := has 0 23 rfl
      obtain ⟨n2, e2, h2, t2⟩ := has 1 22 rfl
      obtain ⟨n3, e3, h3, t3⟩ := has 2 22 rfl
      simp only [List.getElem?_cons_zero, List.getElem?_cons_succ, Option.some.injEq] at h1 h2 h3
      obtain ⟨l, hl, rfl, _⟩ := typ_array Try.underlying23 Try.underlying22 (by kernel_rfl) (by kernel_rfl) t1
      obtain ⟨k, rfl, _⟩ := typ_int Try.underlying22 t2
      obtain ⟨w, rfl, _⟩ := typ_int Try.underlying22 t3
      obtain ⟨a, b, c, d, e, f, g, i, rfl⟩ := list8 hl
      simp only [avOf, Try.underlying23, Try.underlying22, List.map_cons, List.map_nil, ofC, av1] at h1 h2 h3
      subst h1 h2 h3
      exact ⟨[], law_rounds a b c d e f g i k w⟩

theorem shaRounds_over : Rows.shaRoundsRow.holds Try.pinned (OpenSpec.ofChange Rows.shaRoundsSpec) :=
  OpenClaim.holds_of_wide 3 Try.f3 rfl rfl rfl rfl rfl rfl rfl ⟨rfl, rfl, rfl, rfl, rfl⟩ rfl rfl rfl rfl rfl (by kernel_rfl) Try.func3 (by kernel_rfl)
    (of_decide_eq_true (by kernel_rfl)) (by unfold Func.isWrapper; first | (rw [if_pos (by decide +kernel)]; kernel_rfl) | (rw [if_neg (by decide +kernel)]; exact ⟨rfl, rfl⟩))
    (fun os started H enc _ => shaRounds_lifted os started H enc)
/-- The row, under a short name, for the claim. -/
theorem shaRounds_holds : Rows.ShaRoundsSaid := shaRounds_over
#print axioms shaRounds_holds
end Go.Proofs.Ytfbipgidlecmkaa
