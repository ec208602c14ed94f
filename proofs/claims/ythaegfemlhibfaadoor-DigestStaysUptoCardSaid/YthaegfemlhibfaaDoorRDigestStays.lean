/-
  DigestStays: bytes that are handed in stay as they are, and what was answered stays: the law answers true, whatever comes in that is of bulk at most 1048576; what came in reads as it did.
-/
import Derived.Test.YthaegfemlhibfaaDoorDigestStays
import Derived.Test.YthaegfemlhibfaaDoorRwD
set_option linter.unusedSimpArgs false
set_option linter.unusedVariables false
set_option maxRecDepth 200000
set_option maxHeartbeats 4000000
namespace Go.Proofs.YthaegfemlhibfaaDoor
open Go.Ev

open Go.ChangeShapes Go.WideShapes Go.ChangeAt Go.RowKit
theorem tys_DigestStays : tyOk Tryd.prog [22, 5, 31] = true := by kernel_rfl
theorem contract_DigestStays {H : Type} {enc : TypeId × Value → H} {W : World} {base : Nat} {args : Array Value} {ds gs : List (DataW H)} {before : List MemPlace} (hval : ∀ (j : Nat) t v, Tryd.f4.params[j]? = some t → args[j]? = some v → Value.okWide Tryd.prog W .any base t v)
    (hW : DataW.Whole enc Tryd.prog Tryd.f4.params.toList Rows.digestStaysSpec.vars false W args.toList ds gs before) (hL : laidMetH Tryd.prog Rows.digestStaysUptoRow.laid W) (hk : Rows.uptoSmall H (ds ++ gs) = true) :
    Calls Tryd.prog 4 args W fun e W' => ∃ v, e = .returned v ∧ Rows.digestStaysSpec.post enc Tryd.prog Tryd.f4 false true false false W args v W' := by
  have hgs : gs = [] := by
    obtain ⟨_, _, _, hV, _⟩ := hW
    exact (trodVars_none hV).1
  subst hgs
  refine law_postG (tb := 4) tabOk rfl laidOut tys_DigestStays (by rw [Tryd.params4]; simp) (by kernel_rfl) (by kernel_rfl) Tryd.underlying4 rfl (fun ds hds => ?_) (glob_ok hL) hval hW fun ess hlen hb has => ?_
  · rw [Tryd.params4] at hds
    match ds, hds with
    | [a0, a1], _ => rfl
  · have hb2 := Nat.le_trans hb (small_le hk)
    rw [Tryd.params4] at hlen has ⊢
    match ess, hlen with
    | [e0, e1], _ =>
      obtain ⟨n0, t0⟩ := has 0 _ e0 rfl rfl
      obtain ⟨x0, rfl⟩ := typ_bytes Tryd.underlying22 Tryd.underlying5 t0
      obtain ⟨n1, t1⟩ := has 1 _ e1 rfl rfl
      obtain ⟨l1, hl1, rfl, w1⟩ := typ_array Tryd.underlying31 Tryd.underlying5 (by kernel_rfl) (by kernel_rfl) t1
      obtain ⟨x1, rfl⟩ := bytes_arr l1 w1
      rw [List.length_map] at hl1
      obtain ⟨y0, y1, y2, y3, rfl⟩ := arr4 x1 hl1
      simp only [cBLL, cBL, cB, cBLL_eB, cBLL_eI, cBLL_eBs] at hb2
      rw [show (#[22, 31] : Array TypeId).toList = [22, 31] from rfl]
      simp only [argsOf, avOf, Tryd.underlying22, Tryd.underlying31, av1, ofC, List.map_cons, List.map_nil]
      exact law_DigestStays x0 y0 y1 y2 y3 (by omega)

theorem met_DigestStays (os : Os) : laidMet Tryd.prog Rows.digestStaysUptoRow.laid ((laidWorld os).forCall (fun _ _ => 0) ⟨#[], #[Value.slice none 0 0, Value.agg #[.int .u8 0, .int .u8 0, .int .u8 0, .int .u8 0]], []⟩).memory :=
  laidMet_of_run' 8 (by kernel_rfl) (by kernel_rfl)
theorem reads_DigestStays (os : Os) {H : Type} (enc : TypeId × Value → H) : ∃ places, DataW.whole enc Tryd.prog ((laidWorld os).forCall (fun _ _ => 0) ⟨#[], #[Value.slice none 0 0, Value.agg #[.int .u8 0, .int .u8 0, .int .u8 0, .int .u8 0]], []⟩).memory Tryd.f4.params.toList Rows.digestStaysSpec.vars false #[Value.slice none 0 0, Value.agg #[.int .u8 0, .int .u8 0, .int .u8 0, .int .u8 0]].toList 8 = some ([.nil, .agg [.lit (.int .u8 0), .lit (.int .u8 0), .lit (.int .u8 0), .lit (.int .u8 0)]], [], places) :=
  ⟨[], by kernel_rfl⟩
set_option maxRecDepth 100000 in
theorem lifted_DigestStays (os : Os) (started : os.Started) (H : Type) (enc : TypeId × Value → H) (F : Stop.Interp) :
    ReturnsInHanded {} Tryd.checked os 4 .any ((Rows.OpenSpec.upto Rows.digestStaysSpec).preRow enc Tryd.prog Tryd.f4 Rows.digestStaysUptoRow.domain false Rows.digestStaysUptoRow.laid) (((Rows.OpenSpec.upto Rows.digestStaysSpec).at F).post enc Tryd.prog Tryd.f4 false true false false) := by
  obtain ⟨places, hx⟩ := reads_DigestStays os enc
  refine returnsInHanded_of_row (C := Tryd.checked) (s := Rows.OpenSpec.upto Rows.digestStaysSpec) own started (by kernel_rfl) Tryd.func4
    (witness_row_at (enc := enc) (C := Tryd.checked) false (laidWorld os) #[Value.slice none 0 0, Value.agg #[.int .u8 0, .int .u8 0, .int .u8 0, .int .u8 0]] rfl (by kernel_rfl) (by kernel_rfl) (by kernel_rfl)
      (OpenSpec.preRow_of_cond 8 hx (by kernel_rfl) (fun k hk => by cases hk; kernel_rfl) (by kernel_rfl) (met_DigestStays os))) ?_
  intro W base args ds gs before hval hW _ hcond _ hL _ _
  exact contract_DigestStays hval hW hL (hcond _ rfl)
theorem digestStays_said : Rows.DigestStaysUptoSaid :=
  OpenClaim.holds_of_cond 4 Tryd.f4 rfl rfl rfl rfl rfl rfl rfl ⟨rfl, rfl, rfl, rfl, rfl⟩ rfl rfl rfl rfl rfl (by kernel_rfl) Tryd.func4 (by kernel_rfl)
    (of_decide_eq_true (by kernel_rfl)) (by unfold Func.isWrapper; first | (rw [if_pos (by decide +kernel)]; kernel_rfl) | (rw [if_neg (by decide +kernel)]; exact ⟨rfl, rfl⟩))
    (fun os started H enc _ F => by rw [OpenClaim.pre_eq_preRow]; exact lifted_DigestStays os started H enc F)
theorem plain_DigestStays (f : FuncId) (fn : Func) (hf : Tryd.pinned.checked.prog.funcNamed "heartwood/heartwoodlaw03.DigestStays" = some f) (hfn : Tryd.pinned.checked.prog.funcs[f]? = some fn) :
    false = Tryd.pinned.checked.prog.looks [] ∧ ∀ (j : Nat) t, fn.params[j]? = some t → Tryd.pinned.checked.prog.wantsStandIn t = false := by
  obtain rfl : f = 4 := Option.some.inj ((show Tryd.prog.funcNamed "heartwood/heartwoodlaw03.DigestStays" = some 4 by kernel_rfl).symm.trans hf) |>.symm
  obtain rfl : fn = Tryd.f4 := (Option.some.inj (Tryd.func4.symm.trans hfn)).symm
  refine ⟨by kernel_rfl, fun j t ht => ?_⟩
  rw [Tryd.params4] at ht
  have hm : t = 22 ∨ t = 31 := by simpa using Array.mem_of_getElem? ht
  rcases hm with rfl | rfl
  · exact (show Tryd.prog.wantsStandIn 22 = false by kernel_rfl)
  · exact (show Tryd.prog.wantsStandIn 31 = false by kernel_rfl)
theorem digestStays_holds : Rows.DigestStaysUptoCardSaid :=
  Claim7.holds_tied_plain_at .later [] _ _ _ _ digestStays_said (fun _ h => by cases h) (by kernel_rfl) (fun _ h => by cases h) digestStaysUpto_row_tie rfl ⟨rfl, rfl⟩ (by kernel_rfl) rfl plain_DigestStays (by kernel_rfl)
#print axioms digestStays_holds

end Go.Proofs.YthaegfemlhibfaaDoor
