/-
  NetFull: a line takes as many as it has room for, and no more; the others stay as they are: the law answers true, whatever comes in that is of bulk at most 1048576; what came in reads as it did.
-/
import Derived.Test.YtdgfbfkjdflabaaLPostN
set_option linter.unusedSimpArgs false
set_option linter.unusedVariables false
set_option maxRecDepth 200000
set_option maxHeartbeats 4000000
namespace Go.Proofs.Ytdgfbfkjdflabaa
open Go.Ev
open Go.ChangeShapes Go.WideShapes Go.ChangeAt Go.RowKit
theorem tys_NetFull : tyOk Try.prog [3] = true := by kernel_rfl
theorem contract_NetFull {H : Type} {enc : TypeId × Value → H} {W : World} {base : Nat} {args : Array Value} {ds gs : List (DataW H)} {before : List MemPlace} (hval : ∀ (j : Nat) t v, Try.f3.params[j]? = some t → args[j]? = some v → Value.okWide Try.prog W .any base t v)
  (hW : DataW.Whole enc Try.prog Try.f3.params.toList Rows.netFullSpec.vars false W args.toList ds gs before) (hk : Rows.uptoSmall H (ds ++ gs) = true) :
  Calls Try.prog 3 args W fun e W' => ∃ v, e = .returned v ∧ Rows.netFullSpec.post enc Try.prog Try.f3 false true false false W args v W' := by
 have hgs : gs = [] := by
  obtain ⟨_, _, _, hV, _⟩ := hW
  exact (trodVars_none hV).1
 subst hgs
 refine law_postN (tb := 4) tabOk xokN (fun _ => rfl) laidOut tys_NetFull (by rw [Try.params3]; simp) (by kernel_rfl) (by kernel_rfl) Try.underlying4 rfl (fun ds hds => ?_) hval hW fun ess hlen hb has => ?_
 ·rw [Try.params3] at hds
  match ds, hds with
  | [a0, a1, a2], _ => rfl
 ·have hb2 := Nat.le_trans hb (small_le hk)
  rw [Try.params3] at hlen has ⊢
  match ess, hlen with
  | [e0, e1, e2], _ =>
   obtain ⟨n0, t0⟩ := has 0 _ e0 rfl rfl
   obtain ⟨x0, rfl, w0⟩ := typ_int Try.underlying3 t0
   obtain ⟨n1, t1⟩ := has 1 _ e1 rfl rfl
   obtain ⟨x1, rfl, w1⟩ := typ_int Try.underlying3 t1
   obtain ⟨n2, t2⟩ := has 2 _ e2 rfl rfl
   obtain ⟨x2, rfl, w2⟩ := typ_int Try.underlying3 t2
   simp only [cBLL, cBL, Ev.cB, cBLL_eB, cBLL_eI, cBLL_eBs] at hb2
   rw [show (#[3, 3, 3] : Array TypeId).toList = [3, 3, 3] from rfl]
   simp only [argsOf, avOf, Try.underlying3, av1, ofC, List.map_cons, List.map_nil]
   exact law_NetFull x0 x1 x2 (inI_wf w0) (inI_wf w1) (inI_wf w2)
set_option maxRecDepth 100000 in
theorem lifted_NetFull (os : Os) (started : os.Started) (H : Type) (enc : TypeId × Value → H) (F : Stop.Interp) :
  ReturnsInHanded {} Try.checked os 3 .any ((Rows.OpenSpec.upto Rows.netFullSpec).pre6 enc Try.prog Try.f3 Rows.netFullUptoRow.domain false) (((Rows.OpenSpec.upto Rows.netFullSpec).at F).post enc Try.prog Try.f3 false true false false) := by
 refine returnsInHanded_of_cond (C := Try.checked) (s := Rows.OpenSpec.upto Rows.netFullSpec) (k := Rows.uptoSmall) rfl own started (by kernel_rfl) Try.func3
  (OpenSpec.witness (enc := enc) (C := Try.checked) (s := Rows.OpenSpec.upto Rows.netFullSpec) (k := Rows.uptoSmall) rfl false ⟨#[], #[.int .i64 0, .int .i64 0, .int .i64 0], []⟩ 8 (by kernel_rfl) (by kernel_rfl) (by kernel_rfl)
   (x := ([.lit (.int .i64 0), .lit (.int .i64 0), .lit (.int .i64 0)], [], [])) (by kernel_rfl) rfl (by kernel_rfl)) ?_
 intro W base args ds gs before hval hW _ hk _
 exact contract_NetFull hval hW hk
theorem netFull_holds : Rows.NetFullUptoSaid :=
 OpenClaim.holds_of_cond 3 Try.f3 rfl rfl rfl rfl rfl rfl rfl ⟨rfl, rfl, rfl, rfl, rfl⟩ rfl rfl rfl rfl rfl (by kernel_rfl) Try.func3 (by kernel_rfl)
  (of_decide_eq_true (by kernel_rfl)) (by unfold Func.isWrapper; first | (rw [if_pos (by decide +kernel)]; kernel_rfl) | (rw [if_neg (by decide +kernel)]; exact ⟨rfl, rfl⟩))
  (fun os started H enc _ F => lifted_NetFull os started H enc F)
#print axioms netFull_holds
end Go.Proofs.Ytdgfbfkjdflabaa
