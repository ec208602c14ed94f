/-
  NetPlays: a net carries, loses, doubles and answers as the document says, through any script: the law answers true, whatever comes in that is of bulk at most 1048576; what came in reads as it did.
-/
import Derived.Test.YtdgfbfkjdflabaaLTypNet
set_option linter.unusedSimpArgs false
set_option linter.unusedVariables false
set_option maxRecDepth 200000
set_option maxHeartbeats 4000000
namespace Go.Proofs.Ytdgfbfkjdflabaa
open Go.Ev
open Go.ChangeShapes Go.WideShapes Go.ChangeAt Go.RowKit
theorem tys_NetPlays : tyOk Try.prog [42, 50, 3, 4, 48, 34, 27, 72, 29, 5, 28, 32, 30] = true := by kernel_rfl
theorem contract_NetPlays {H : Type} {enc : TypeId × Value → H} {W : World} {base : Nat} {args : Array Value} {ds gs : List (DataW H)} {before : List MemPlace} (hval : ∀ (j : Nat) t v, Try.f4.params[j]? = some t → args[j]? = some v → Value.okWide Try.prog W .any base t v)
  (hW : DataW.Whole enc Try.prog Try.f4.params.toList Rows.netPlaysSpec.vars false W args.toList ds gs before) (hk : Rows.uptoSmall H (ds ++ gs) = true) :
  Calls Try.prog 4 args W fun e W' => ∃ v, e = .returned v ∧ Rows.netPlaysSpec.post enc Try.prog Try.f4 false true false false W args v W' := by
 have hgs : gs = [] := by
  obtain ⟨_, _, _, hV, _⟩ := hW
  exact (trodVars_none hV).1
 subst hgs
 refine law_postN (tb := 4) tabOk xokN (fun _ => rfl) laidOut tys_NetPlays (by rw [Try.params4]; simp) (by kernel_rfl) (by kernel_rfl) Try.underlying4 rfl (fun ds hds => ?_) hval hW fun ess hlen hb has => ?_
 ·rw [Try.params4] at hds
  match ds, hds with
  | [a0], _ => rfl
 ·have hb2 := Nat.le_trans hb (small_le hk)
  rw [Try.params4] at hlen has ⊢
  match ess, hlen with
  | [e0], _ =>
   obtain ⟨n0, t0⟩ := has 0 _ e0 rfl rfl
   obtain ⟨x0, rfl, w0⟩ := typ_deeds21 t0
   simp only [cBLL, cBL, Ev.cB, cBLL_eB, cBLL_eI, cBLL_eBs] at hb2
   have s0 := (deeds21_bulk x0).1
   rw [show (#[42] : Array TypeId).toList = [42] from rfl]
   simp only [argsOf, avOf, Try.underlying42, av1, ofC, List.map_cons, List.map_nil]
   exact law_NetPlays x0 (by omega) (deeds21_ok (by omega) w0)
set_option maxRecDepth 100000 in
theorem lifted_NetPlays (os : Os) (started : os.Started) (H : Type) (enc : TypeId × Value → H) (F : Stop.Interp) :
  ReturnsInHanded {} Try.checked os 4 .any ((Rows.OpenSpec.upto Rows.netPlaysSpec).pre6 enc Try.prog Try.f4 Rows.netPlaysUptoRow.domain false) (((Rows.OpenSpec.upto Rows.netPlaysSpec).at F).post enc Try.prog Try.f4 false true false false) := by
 refine returnsInHanded_of_cond (C := Try.checked) (s := Rows.OpenSpec.upto Rows.netPlaysSpec) (k := Rows.uptoSmall) rfl own started (by kernel_rfl) Try.func4
  (OpenSpec.witness (enc := enc) (C := Try.checked) (s := Rows.OpenSpec.upto Rows.netPlaysSpec) (k := Rows.uptoSmall) rfl false ⟨#[], #[.slice none 0 0], []⟩ 8 (by kernel_rfl) (by kernel_rfl) (by kernel_rfl)
   (x := ([.nil], [], [])) (by kernel_rfl) rfl (by kernel_rfl)) ?_
 intro W base args ds gs before hval hW _ hk _
 exact contract_NetPlays hval hW hk
theorem netPlays_holds : Rows.NetPlaysUptoSaid :=
 OpenClaim.holds_of_cond 4 Try.f4 rfl rfl rfl rfl rfl rfl rfl ⟨rfl, rfl, rfl, rfl, rfl⟩ rfl rfl rfl rfl rfl (by kernel_rfl) Try.func4 (by kernel_rfl)
  (of_decide_eq_true (by kernel_rfl)) (by unfold Func.isWrapper; first | (rw [if_pos (by decide +kernel)]; kernel_rfl) | (rw [if_neg (by decide +kernel)]; exact ⟨rfl, rfl⟩))
  (fun os started H enc _ F => lifted_NetPlays os started H enc F)
#print axioms netPlays_holds
end Go.Proofs.Ytdgfbfkjdflabaa
