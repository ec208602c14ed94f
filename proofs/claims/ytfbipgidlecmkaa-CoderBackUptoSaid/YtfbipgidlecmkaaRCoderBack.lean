/-
  CoderBack: numbers and bytes that were written one behind the other are read as they were: the law answers true, whatever comes in that is of bulk at most 1048576; what came in reads as it did.
-/
import Derived.Test.YtfbipgidlecmkaaCoderBack
import Derived.Test.YtfbipgidlecmkaaRw
set_option linter.unusedSimpArgs false
set_option linter.unusedVariables false
set_option maxRecDepth 200000
set_option maxHeartbeats 4000000
namespace Go.Proofs.Ytfbipgidlecmkaa
open Go.Ev

open Go.ChangeShapes Go.WideShapes Go.ChangeAt Go.RowKit
theorem tys_CoderBack : tyOk Try.prog [67, 34, 68, 26, 5] = true := by kernel_rfl
theorem contract_CoderBack {H : Type} {enc : TypeId × Value → H} {W : World} {base : Nat} {args : Array Value} {ds gs : List (DataW H)} {before : List MemPlace} (hval : ∀ (j : Nat) t v, Try.f13.params[j]? = some t → args[j]? = some v → Value.okWide Try.prog W .any base t v)
    (hW : DataW.Whole enc Try.prog Try.f13.params.toList Rows.coderBackSpec.vars false W args.toList ds gs before) (hk : Rows.uptoSmall H (ds ++ gs) = true) :
    Calls Try.prog 13 args W fun e W' => ∃ v, e = .returned v ∧ Rows.coderBackSpec.post enc Try.prog Try.f13 false true false false W args v W' := by
  have hgs : gs = [] := by
    obtain ⟨_, _, _, hV, _⟩ := hW
    exact (trodVars_none hV).1
  subst hgs
  refine law_post (tb := 4) tabOk laidOut tys_CoderBack (by rw [Try.params13]; simp) (by kernel_rfl) (by kernel_rfl) Try.underlying4 rfl (fun ds hds => ?_) hval hW fun ess hlen hb has => ?_
  · rw [Try.params13] at hds
    match ds, hds with
    | [a0, a1], _ => rfl
  · have hb2 := Nat.le_trans hb (small_le hk)
    rw [Try.params13] at hlen has ⊢
    match ess, hlen with
    | [e0, e1], _ =>
      obtain ⟨n0, t0⟩ := has 0 _ e0 rfl rfl
      obtain ⟨x0, rfl, w0⟩ := typ_ints Try.underlying67 Try.underlying34 t0
      obtain ⟨n1, t1⟩ := has 1 _ e1 rfl rfl
      obtain ⟨x1, rfl⟩ := typ_slices Try.underlying68 Try.underlying26 Try.underlying5 t1
      simp only [cBLL, cBL, cB, cBLL_eB, cBLL_eI, cBLL_eBs] at hb2
      have s1 := sum_len x1
      rw [show (#[67, 68] : Array TypeId).toList = [67, 68] from rfl]
      simp only [argsOf, avOf, Try.underlying67, Try.underlying68, av1, ofC, List.map_cons, List.map_nil]
      exact law_CoderBack x0 x1 (by omega) (fun i hi => by have := w0 i hi; simp [Lit.wf, IntKind.has, IntKind.min, IntKind.max, IntKind.signed, IntKind.bits] at this; omega) (by omega) (fun b hb => by have := sum_mem hb; omega)

set_option maxRecDepth 100000 in
theorem lifted_CoderBack (os : Os) (started : os.Started) (H : Type) (enc : TypeId × Value → H) (F : Stop.Interp) :
    ReturnsInHanded {} Try.checked os 13 .any ((Rows.OpenSpec.upto Rows.coderBackSpec).pre6 enc Try.prog Try.f13 Rows.coderBackUptoRow.domain false) (((Rows.OpenSpec.upto Rows.coderBackSpec).at F).post enc Try.prog Try.f13 false true false false) := by
  refine returnsInHanded_of_cond (C := Try.checked) (s := Rows.OpenSpec.upto Rows.coderBackSpec) (k := Rows.uptoSmall) rfl own started (by kernel_rfl) Try.func13
    (OpenSpec.witness (enc := enc) (C := Try.checked) (s := Rows.OpenSpec.upto Rows.coderBackSpec) (k := Rows.uptoSmall) rfl false ⟨#[], #[.slice none 0 0, .slice none 0 0], []⟩ 8 (by kernel_rfl) (by kernel_rfl) (by kernel_rfl)
      (x := ([.nil, .nil], [], [])) (by kernel_rfl) rfl (by kernel_rfl)) ?_
  intro W base args ds gs before hval hW _ hk _
  exact contract_CoderBack hval hW hk

theorem coderBack_holds : Rows.CoderBackUptoSaid :=
  OpenClaim.holds_of_cond 13 Try.f13 rfl rfl rfl rfl rfl rfl rfl ⟨rfl, rfl, rfl, rfl, rfl⟩ rfl rfl rfl rfl rfl (by kernel_rfl) Try.func13 (by kernel_rfl)
    (of_decide_eq_true (by kernel_rfl)) (by unfold Func.isWrapper; first | (rw [if_pos (by decide +kernel)]; kernel_rfl) | (rw [if_neg (by decide +kernel)]; exact ⟨rfl, rfl⟩))
    (fun os started H enc _ F => lifted_CoderBack os started H enc F)
#print axioms coderBack_holds

end Go.Proofs.Ytfbipgidlecmkaa
