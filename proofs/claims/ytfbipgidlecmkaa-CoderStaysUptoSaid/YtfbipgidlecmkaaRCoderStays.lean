/-
  CoderStays: bytes that are handed in stay as they are, and what was answered stays: the law answers true, whatever comes in that is of bulk at most 1048576; what came in reads as it did.
-/
import Derived.Test.YtfbipgidlecmkaaCoderStays
import Derived.Test.YtfbipgidlecmkaaRw
set_option linter.unusedSimpArgs false
set_option linter.unusedVariables false
set_option maxRecDepth 200000
set_option maxHeartbeats 4000000
namespace Go.Proofs.Ytfbipgidlecmkaa
open Go.Ev

open Go.ChangeShapes Go.WideShapes Go.ChangeAt Go.RowKit
theorem tys_CoderStays : tyOk Try.prog [26, 5] = true := by kernel_rfl
theorem contract_CoderStays {H : Type} {enc : TypeId × Value → H} {W : World} {base : Nat} {args : Array Value} {ds gs : List (DataW H)} {before : List MemPlace} (hval : ∀ (j : Nat) t v, Try.f11.params[j]? = some t → args[j]? = some v → Value.okWide Try.prog W .any base t v)
    (hW : DataW.Whole enc Try.prog Try.f11.params.toList Rows.coderStaysSpec.vars false W args.toList ds gs before) (hk : Rows.uptoSmall H (ds ++ gs) = true) :
    Calls Try.prog 11 args W fun e W' => ∃ v, e = .returned v ∧ Rows.coderStaysSpec.post enc Try.prog Try.f11 false true false false W args v W' := by
  have hgs : gs = [] := by
    obtain ⟨_, _, _, hV, _⟩ := hW
    exact (trodVars_none hV).1
  subst hgs
  refine law_post (tb := 4) tabOk laidOut tys_CoderStays (by rw [Try.params11]; simp) (by kernel_rfl) (by kernel_rfl) Try.underlying4 rfl (fun ds hds => ?_) hval hW fun ess hlen hb has => ?_
  · rw [Try.params11] at hds
    match ds, hds with
    | [a0], _ => rfl
  · have hb2 := Nat.le_trans hb (small_le hk)
    rw [Try.params11] at hlen has ⊢
    match ess, hlen with
    | [e0], _ =>
      obtain ⟨n0, t0⟩ := has 0 _ e0 rfl rfl
      obtain ⟨x0, rfl⟩ := typ_bytes Try.underlying26 Try.underlying5 t0
      simp only [cBLL, cBL, cB, cBLL_eB, cBLL_eI, cBLL_eBs] at hb2
      rw [show (#[26] : Array TypeId).toList = [26] from rfl]
      simp only [argsOf, avOf, Try.underlying26, av1, ofC, List.map_cons, List.map_nil]
      exact law_CoderStays x0 (by omega)

set_option maxRecDepth 100000 in
theorem lifted_CoderStays (os : Os) (started : os.Started) (H : Type) (enc : TypeId × Value → H) (F : Stop.Interp) :
    ReturnsInHanded {} Try.checked os 11 .any ((Rows.OpenSpec.upto Rows.coderStaysSpec).pre6 enc Try.prog Try.f11 Rows.coderStaysUptoRow.domain false) (((Rows.OpenSpec.upto Rows.coderStaysSpec).at F).post enc Try.prog Try.f11 false true false false) := by
  refine returnsInHanded_of_cond (C := Try.checked) (s := Rows.OpenSpec.upto Rows.coderStaysSpec) (k := Rows.uptoSmall) rfl own started (by kernel_rfl) Try.func11
    (OpenSpec.witness (enc := enc) (C := Try.checked) (s := Rows.OpenSpec.upto Rows.coderStaysSpec) (k := Rows.uptoSmall) rfl false ⟨#[], #[.slice none 0 0], []⟩ 8 (by kernel_rfl) (by kernel_rfl) (by kernel_rfl)
      (x := ([.nil], [], [])) (by kernel_rfl) rfl (by kernel_rfl)) ?_
  intro W base args ds gs before hval hW _ hk _
  exact contract_CoderStays hval hW hk

theorem coderStays_holds : Rows.CoderStaysUptoSaid :=
  OpenClaim.holds_of_cond 11 Try.f11 rfl rfl rfl rfl rfl rfl rfl ⟨rfl, rfl, rfl, rfl, rfl⟩ rfl rfl rfl rfl rfl (by kernel_rfl) Try.func11 (by kernel_rfl)
    (of_decide_eq_true (by kernel_rfl)) (by unfold Func.isWrapper; first | (rw [if_pos (by decide +kernel)]; kernel_rfl) | (rw [if_neg (by decide +kernel)]; exact ⟨rfl, rfl⟩))
    (fun os started H enc _ F => lifted_CoderStays os started H enc F)
#print axioms coderStays_holds

end Go.Proofs.Ytfbipgidlecmkaa
