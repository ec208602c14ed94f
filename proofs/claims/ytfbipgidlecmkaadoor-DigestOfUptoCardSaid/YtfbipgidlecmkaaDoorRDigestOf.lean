/-
  DigestOf: the digest of any bytes by any width, or that there is none: the law answers true, whatever comes in that is of bulk at most 1048576; what came in reads as it did.
-/
import Derived.Test.YtfbipgidlecmkaaDoorDigestOf
import Derived.Test.YtfbipgidlecmkaaDoorRwD
set_option linter.unusedSimpArgs false
set_option linter.unusedVariables false
set_option maxRecDepth 200000
set_option maxHeartbeats 4000000
namespace Go.Proofs.YtfbipgidlecmkaaDoor
open Go.Ev

open Go.ChangeShapes Go.WideShapes Go.ChangeAt Go.RowKit
theorem tys_DigestOf : tyOk Tryd.prog [3, 24, 5] = true := by kernel_rfl
theorem contract_DigestOf {H : Type} {enc : TypeId × Value → H} {W : World} {base : Nat} {args : Array Value} {ds gs : List (DataW H)} {before : List MemPlace} (hval : ∀ (j : Nat) t v, Tryd.f7.params[j]? = some t → args[j]? = some v → Value.okWide Tryd.prog W .any base t v)
    (hW : DataW.Whole enc Tryd.prog Tryd.f7.params.toList Rows.digestOfSpec.vars false W args.toList ds gs before) (hL : laidMetH Tryd.prog Rows.digestOfUptoRow.laid W) (hk : Rows.uptoSmall H (ds ++ gs) = true) :
    Calls Tryd.prog 7 args W fun e W' => ∃ v, e = .returned v ∧ Rows.digestOfSpec.post enc Tryd.prog Tryd.f7 false true false false W args v W' := by
  have hgs : gs = [] := by
    obtain ⟨_, _, _, hV, _⟩ := hW
    exact (trodVars_none hV).1
  subst hgs
  refine law_postG (tb := 4) tabOk rfl laidOut tys_DigestOf (by rw [Tryd.params7]; simp) (by kernel_rfl) (by kernel_rfl) Tryd.underlying4 rfl (fun ds hds => ?_) (glob_ok hL) hval hW fun ess hlen hb has => ?_
  · rw [Tryd.params7] at hds
    match ds, hds with
    | [a0, a1], _ => rfl
  · have hb2 := Nat.le_trans hb (small_le hk)
    rw [Tryd.params7] at hlen has ⊢
    match ess, hlen with
    | [e0, e1], _ =>
      obtain ⟨n0, t0⟩ := has 0 _ e0 rfl rfl
      obtain ⟨x0, rfl, w0⟩ := typ_int Tryd.underlying3 t0
      simp [Lit.wf, IntKind.has, IntKind.min, IntKind.max, IntKind.signed, IntKind.bits] at w0
      obtain ⟨n1, t1⟩ := has 1 _ e1 rfl rfl
      obtain ⟨x1, rfl⟩ := typ_bytes Tryd.underlying24 Tryd.underlying5 t1
      simp only [cBLL, cBL, cB, cBLL_eB, cBLL_eI, cBLL_eBs] at hb2
      rw [show (#[3, 24] : Array TypeId).toList = [3, 24] from rfl]
      simp only [argsOf, avOf, Tryd.underlying3, Tryd.underlying24, av1, ofC, List.map_cons, List.map_nil]
      exact law_DigestOf x0 x1 (by omega) (by omega)

theorem met_DigestOf (os : Os) : laidMet Tryd.prog Rows.digestOfUptoRow.laid ((laidWorld os).forCall (fun _ _ => 0) ⟨#[], #[Value.int .i64 0, Value.slice none 0 0], []⟩).memory :=
  laidMet_of_run' 8 (by kernel_rfl) (by kernel_rfl)
theorem reads_DigestOf (os : Os) {H : Type} (enc : TypeId × Value → H) : ∃ places, DataW.whole enc Tryd.prog ((laidWorld os).forCall (fun _ _ => 0) ⟨#[], #[Value.int .i64 0, Value.slice none 0 0], []⟩).memory Tryd.f7.params.toList Rows.digestOfSpec.vars false #[Value.int .i64 0, Value.slice none 0 0].toList 8 = some ([.lit (.int .i64 0), .nil], [], places) :=
  ⟨[], by kernel_rfl⟩
set_option maxRecDepth 100000 in
theorem lifted_DigestOf (os : Os) (started : os.Started) (H : Type) (enc : TypeId × Value → H) (F : Stop.Interp) :
    ReturnsInHanded {} Tryd.checked os 7 .any ((Rows.OpenSpec.upto Rows.digestOfSpec).preRow enc Tryd.prog Tryd.f7 Rows.digestOfUptoRow.domain false Rows.digestOfUptoRow.laid) (((Rows.OpenSpec.upto Rows.digestOfSpec).at F).post enc Tryd.prog Tryd.f7 false true false false) := by
  obtain ⟨places, hx⟩ := reads_DigestOf os enc
  refine returnsInHanded_of_row (C := Tryd.checked) (s := Rows.OpenSpec.upto Rows.digestOfSpec) own started (by kernel_rfl) Tryd.func7
    (witness_row_at (enc := enc) (C := Tryd.checked) false (laidWorld os) #[Value.int .i64 0, Value.slice none 0 0] rfl (by kernel_rfl) (by kernel_rfl) (by kernel_rfl)
      (OpenSpec.preRow_of_cond 8 hx (by kernel_rfl) (fun k hk => by cases hk; kernel_rfl) (by kernel_rfl) (met_DigestOf os))) ?_
  intro W base args ds gs before hval hW _ hcond _ hL _ _
  exact contract_DigestOf hval hW hL (hcond _ rfl)
theorem digestOf_said : Rows.DigestOfUptoSaid :=
  OpenClaim.holds_of_cond 7 Tryd.f7 rfl rfl rfl rfl rfl rfl rfl ⟨rfl, rfl, rfl, rfl, rfl⟩ rfl rfl rfl rfl rfl (by kernel_rfl) Tryd.func7 (by kernel_rfl)
    (of_decide_eq_true (by kernel_rfl)) (by unfold Func.isWrapper; first | (rw [if_pos (by decide +kernel)]; kernel_rfl) | (rw [if_neg (by decide +kernel)]; exact ⟨rfl, rfl⟩))
    (fun os started H enc _ F => by rw [OpenClaim.pre_eq_preRow]; exact lifted_DigestOf os started H enc F)
theorem plain_DigestOf (f : FuncId) (fn : Func) (hf : Tryd.pinned.checked.prog.funcNamed "heartwood/heartwoodlaw03.DigestOf" = some f) (hfn : Tryd.pinned.checked.prog.funcs[f]? = some fn) :
    true = Tryd.pinned.checked.prog.looks [] ∧ ∀ (j : Nat) t, fn.params[j]? = some t → Tryd.pinned.checked.prog.wantsStandIn t = false := by
  obtain rfl : f = 7 := Option.some.inj ((show Tryd.prog.funcNamed "heartwood/heartwoodlaw03.DigestOf" = some 7 by kernel_rfl).symm.trans hf) |>.symm
  obtain rfl : fn = Tryd.f7 := (Option.some.inj (Tryd.func7.symm.trans hfn)).symm
  refine ⟨by kernel_rfl, fun j t ht => ?_⟩
  rw [Tryd.params7] at ht
  have hm : t = 3 ∨ t = 24 := by simpa using Array.mem_of_getElem? ht
  rcases hm with rfl | rfl
  · exact (show Tryd.prog.wantsStandIn 3 = false by kernel_rfl)
  · exact (show Tryd.prog.wantsStandIn 24 = false by kernel_rfl)
theorem digestOf_holds : Rows.DigestOfUptoCardSaid :=
  Claim7.holds_tied_plain_at .later [] _ _ _ _ digestOf_said (fun _ h => by cases h) (by kernel_rfl) (fun _ h => by cases h) digestOfUpto_row_tie rfl ⟨rfl, rfl⟩ (by kernel_rfl) rfl plain_DigestOf (by kernel_rfl)
#print axioms digestOf_holds

end Go.Proofs.YtfbipgidlecmkaaDoor
