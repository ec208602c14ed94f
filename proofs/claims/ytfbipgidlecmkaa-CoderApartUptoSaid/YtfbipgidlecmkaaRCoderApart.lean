/-
  CoderApart: the bytes of a number that begin with those of another one are those of that one: the law answers true, whatever comes in that is of bulk at most 1048576; what came in reads as it did.
-/
import Derived.Test.YtfbipgidlecmkaaCoderApart
import Derived.Test.YtfbipgidlecmkaaRw
set_option linter.unusedSimpArgs false
set_option linter.unusedVariables false
set_option maxRecDepth 200000
set_option maxHeartbeats 4000000
namespace Go.Proofs.Ytfbipgidlecmkaa
open Go.Ev

open Go.ChangeShapes Go.WideShapes Go.ChangeAt Go.RowKit
theorem tys_CoderApart : tyOk Try.prog [34, 26, 5] = true := by kernel_rfl
theorem contract_CoderApart {H : Type} {enc : TypeId × Value → H} {W : World} {base : Nat} {args : Array Value} {ds gs : List (DataW H)} {before : List MemPlace} (hval : ∀ (j : Nat) t v, Try.f8.params[j]? = some t → args[j]? = some v → Value.okWide Try.prog W .any base t v)
    (hW : DataW.Whole enc Try.prog Try.f8.params.toList Rows.coderApartSpec.vars false W args.toList ds gs before) (hk : Rows.uptoSmall H (ds ++ gs) = true) :
    Calls Try.prog 8 args W fun e W' => ∃ v, e = .returned v ∧ Rows.coderApartSpec.post enc Try.prog Try.f8 false true false false W args v W' := by
  have hgs : gs = [] := by
    obtain ⟨_, _, _, hV, _⟩ := hW
    exact (trodVars_none hV).1
  subst hgs
  refine law_post (tb := 4) tabOk laidOut tys_CoderApart (by rw [Try.params8]; simp) (by kernel_rfl) (by kernel_rfl) Try.underlying4 rfl (fun ds hds => ?_) hval hW fun ess hlen hb has => ?_
  · rw [Try.params8] at hds
    match ds, hds with
    | [a0, a1, a2], _ => rfl
  · have hb2 := Nat.le_trans hb (small_le hk)
    rw [Try.params8] at hlen has ⊢
    match ess, hlen with
    | [e0, e1, e2], _ =>
      obtain ⟨n0, t0⟩ := has 0 _ e0 rfl rfl
      obtain ⟨x0, rfl, w0⟩ := typ_int Try.underlying34 t0
      simp [Lit.wf, IntKind.has, IntKind.min, IntKind.max, IntKind.signed, IntKind.bits] at w0
      obtain ⟨n1, t1⟩ := has 1 _ e1 rfl rfl
      obtain ⟨x1, rfl, w1⟩ := typ_int Try.underlying34 t1
      simp [Lit.wf, IntKind.has, IntKind.min, IntKind.max, IntKind.signed, IntKind.bits] at w1
      obtain ⟨n2, t2⟩ := has 2 _ e2 rfl rfl
      obtain ⟨x2, rfl⟩ := typ_bytes Try.underlying26 Try.underlying5 t2
      simp only [cBLL, cBL, cB, cBLL_eB, cBLL_eI, cBLL_eBs] at hb2
      rw [show (#[34, 34, 26] : Array TypeId).toList = [34, 34, 26] from rfl]
      simp only [argsOf, avOf, Try.underlying26, Try.underlying34, av1, ofC, List.map_cons, List.map_nil]
      exact law_CoderApart x0 x1 x2 (by omega) (by omega) (by omega)

set_option maxRecDepth 100000 in
theorem lifted_CoderApart (os : Os) (started : os.Started) (H : Type) (enc : TypeId × Value → H) (F : Stop.Interp) :
    ReturnsInHanded {} Try.checked os 8 .any ((Rows.OpenSpec.upto Rows.coderApartSpec).pre6 enc Try.prog Try.f8 Rows.coderApartUptoRow.domain false) (((Rows.OpenSpec.upto Rows.coderApartSpec).at F).post enc Try.prog Try.f8 false true false false) := by
  refine returnsInHanded_of_cond (C := Try.checked) (s := Rows.OpenSpec.upto Rows.coderApartSpec) (k := Rows.uptoSmall) rfl own started (by kernel_rfl) Try.func8
    (OpenSpec.witness (enc := enc) (C := Try.checked) (s := Rows.OpenSpec.upto Rows.coderApartSpec) (k := Rows.uptoSmall) rfl false ⟨#[], #[.int .u64 0, .int .u64 0, .slice none 0 0], []⟩ 8 (by kernel_rfl) (by kernel_rfl) (by kernel_rfl)
      (x := ([.lit (.int .u64 0), .lit (.int .u64 0), .nil], [], [])) (by kernel_rfl) rfl (by kernel_rfl)) ?_
  intro W base args ds gs before hval hW _ hk _
  exact contract_CoderApart hval hW hk

theorem coderApart_holds : Rows.CoderApartUptoSaid :=
  OpenClaim.holds_of_cond 8 Try.f8 rfl rfl rfl rfl rfl rfl rfl ⟨rfl, rfl, rfl, rfl, rfl⟩ rfl rfl rfl rfl rfl (by kernel_rfl) Try.func8 (by kernel_rfl)
    (of_decide_eq_true (by kernel_rfl)) (by unfold Func.isWrapper; first | (rw [if_pos (by decide +kernel)]; kernel_rfl) | (rw [if_neg (by decide +kernel)]; exact ⟨rfl, rfl⟩))
    (fun os started H enc _ F => lifted_CoderApart os started H enc F)
#print axioms coderApart_holds

end Go.Proofs.Ytfbipgidlecmkaa
