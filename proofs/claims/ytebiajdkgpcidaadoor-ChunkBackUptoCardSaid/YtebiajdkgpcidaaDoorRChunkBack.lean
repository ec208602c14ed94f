/-
  ChunkBack: what was cut is laid together as it was; each part fits at its place: the law answers true, whatever comes in that is of bulk at most 1048576; what came in reads as it did.
-/
import Derived.Test.YtebiajdkgpcidaaDoorChunkBack
import Derived.Test.YtebiajdkgpcidaaDoorLTypPairD
import Derived.Test.YtebiajdkgpcidaaDoorRwD
set_option linter.unusedSimpArgs false
set_option linter.unusedVariables false
set_option maxRecDepth 200000
set_option maxHeartbeats 4000000
namespace Go.Proofs.YtebiajdkgpcidaaDoor
open Go.Ev

open Go.ChangeShapes Go.WideShapes Go.ChangeAt Go.RowKit
theorem tys_ChunkBack : tyOk Tryd.prog [3, 62, 81, 22, 5] = true := by kernel_rfl
theorem contract_ChunkBack {H : Type} {enc : TypeId × Value → H} {W : World} {base : Nat} {args : Array Value} {ds gs : List (DataW H)} {before : List MemPlace} (hval : ∀ (j : Nat) t v, Tryd.f9.params[j]? = some t → args[j]? = some v → Value.okWide Tryd.prog W .any base t v)
    (hW : DataW.Whole enc Tryd.prog Tryd.f9.params.toList Rows.chunkBackSpec.vars false W args.toList ds gs before) (hL : laidMetH Tryd.prog Rows.chunkBackUptoRow.laid W) (hk : Rows.uptoSmall H (ds ++ gs) = true) :
    Calls Tryd.prog 9 args W fun e W' => ∃ v, e = .returned v ∧ Rows.chunkBackSpec.post enc Tryd.prog Tryd.f9 false true false false W args v W' := by
  have hgs : gs = [] := by
    obtain ⟨_, _, _, hV, _⟩ := hW
    exact (trodVars_none hV).1
  subst hgs
  refine law_postG (tb := 4) tabOk rfl laidOut tys_ChunkBack (by rw [Tryd.params9]; simp) (by kernel_rfl) (by kernel_rfl) Tryd.underlying4 rfl (fun ds hds => ?_) (glob_ok hL) hval hW fun ess hlen hb has => ?_
  · rw [Tryd.params9] at hds
    match ds, hds with
    | [a0, a1, a2], _ => rfl
  · have hb2 := Nat.le_trans hb (small_le hk)
    rw [Tryd.params9] at hlen has ⊢
    match ess, hlen with
    | [e0, e1, e2], _ =>
      obtain ⟨n0, t0⟩ := has 0 _ e0 rfl rfl
      obtain ⟨x0, rfl, w0⟩ := typ_int Tryd.underlying3 t0
      simp [Lit.wf, IntKind.has, IntKind.min, IntKind.max, IntKind.signed, IntKind.bits] at w0
      obtain ⟨n1, t1⟩ := has 1 _ e1 rfl rfl
      obtain ⟨x1, rfl⟩ := typ_pairs t1
      obtain ⟨n2, t2⟩ := has 2 _ e2 rfl rfl
      obtain ⟨x2, rfl, w2⟩ := typ_int Tryd.underlying3 t2
      simp [Lit.wf, IntKind.has, IntKind.min, IntKind.max, IntKind.signed, IntKind.bits] at w2
      simp only [cBLL, cBL, cB, cBLL_eB, cBLL_eI, cBLL_eBs] at hb2
      have s1 := pairs_bulk x1
      rw [show (#[3, 62, 3] : Array TypeId).toList = [3, 62, 3] from rfl]
      simp only [argsOf, avOf, Tryd.underlying3, Tryd.underlying62, av1, ofC, List.map_cons, List.map_nil]
      exact law_ChunkBack x0 x1 x2 (by omega) (by omega) (by omega)

theorem met_ChunkBack (os : Os) : laidMet Tryd.prog Rows.chunkBackUptoRow.laid ((laidWorld os).forCall (fun _ _ => 0) ⟨#[], #[Value.int .i64 0, Value.slice none 0 0, Value.int .i64 0], []⟩).memory :=
  laidMet_of_run' 8 (by kernel_rfl) (by kernel_rfl)
theorem reads_ChunkBack (os : Os) {H : Type} (enc : TypeId × Value → H) : ∃ places, DataW.whole enc Tryd.prog ((laidWorld os).forCall (fun _ _ => 0) ⟨#[], #[Value.int .i64 0, Value.slice none 0 0, Value.int .i64 0], []⟩).memory Tryd.f9.params.toList Rows.chunkBackSpec.vars false #[Value.int .i64 0, Value.slice none 0 0, Value.int .i64 0].toList 8 = some ([.lit (.int .i64 0), .nil, .lit (.int .i64 0)], [], places) :=
  ⟨[], by kernel_rfl⟩
set_option maxRecDepth 100000 in
theorem lifted_ChunkBack (os : Os) (started : os.Started) (H : Type) (enc : TypeId × Value → H) (F : Stop.Interp) :
    ReturnsInHanded {} Tryd.checked os 9 .any ((Rows.OpenSpec.upto Rows.chunkBackSpec).preRow enc Tryd.prog Tryd.f9 Rows.chunkBackUptoRow.domain false Rows.chunkBackUptoRow.laid) (((Rows.OpenSpec.upto Rows.chunkBackSpec).at F).post enc Tryd.prog Tryd.f9 false true false false) := by
  obtain ⟨places, hx⟩ := reads_ChunkBack os enc
  refine returnsInHanded_of_row (C := Tryd.checked) (s := Rows.OpenSpec.upto Rows.chunkBackSpec) own started (by kernel_rfl) Tryd.func9
    (witness_row_at (enc := enc) (C := Tryd.checked) false (laidWorld os) #[Value.int .i64 0, Value.slice none 0 0, Value.int .i64 0] rfl (by kernel_rfl) (by kernel_rfl) (by kernel_rfl)
      (OpenSpec.preRow_of_cond 8 hx (by kernel_rfl) (fun k hk => by cases hk; kernel_rfl) (by kernel_rfl) (met_ChunkBack os))) ?_
  intro W base args ds gs before hval hW _ hcond _ hL _ _
  exact contract_ChunkBack hval hW hL (hcond _ rfl)
theorem chunkBack_said : Rows.ChunkBackUptoSaid :=
  OpenClaim.holds_of_cond 9 Tryd.f9 rfl rfl rfl rfl rfl rfl rfl ⟨rfl, rfl, rfl, rfl, rfl⟩ rfl rfl rfl rfl rfl (by kernel_rfl) Tryd.func9 (by kernel_rfl)
    (of_decide_eq_true (by kernel_rfl)) (by unfold Func.isWrapper; first | (rw [if_pos (by decide +kernel)]; kernel_rfl) | (rw [if_neg (by decide +kernel)]; exact ⟨rfl, rfl⟩))
    (fun os started H enc _ F => by rw [OpenClaim.pre_eq_preRow]; exact lifted_ChunkBack os started H enc F)
theorem plain_ChunkBack (f : FuncId) (fn : Func) (hf : Tryd.pinned.checked.prog.funcNamed "heartwood/heartwoodlaw11.ChunkBack" = some f) (hfn : Tryd.pinned.checked.prog.funcs[f]? = some fn) :
    true = Tryd.pinned.checked.prog.looks [] ∧ ∀ (j : Nat) t, fn.params[j]? = some t → Tryd.pinned.checked.prog.wantsStandIn t = false := by
  obtain rfl : f = 9 := Option.some.inj ((show Tryd.prog.funcNamed "heartwood/heartwoodlaw11.ChunkBack" = some 9 by kernel_rfl).symm.trans hf) |>.symm
  obtain rfl : fn = Tryd.f9 := (Option.some.inj (Tryd.func9.symm.trans hfn)).symm
  refine ⟨by kernel_rfl, fun j t ht => ?_⟩
  rw [Tryd.params9] at ht
  have hm : t = 3 ∨ t = 62 ∨ t = 3 := by simpa using Array.mem_of_getElem? ht
  rcases hm with rfl | rfl | rfl
  · exact (show Tryd.prog.wantsStandIn 3 = false by kernel_rfl)
  · exact (show Tryd.prog.wantsStandIn 62 = false by kernel_rfl)
  · exact (show Tryd.prog.wantsStandIn 3 = false by kernel_rfl)
theorem chunkBack_holds : Rows.ChunkBackUptoCardSaid :=
  Claim7.holds_tied_plain_at .later [] _ _ _ _ chunkBack_said (fun _ h => by cases h) (by kernel_rfl) (fun _ h => by cases h) chunkBackUpto_row_tie rfl ⟨rfl, rfl⟩ (by kernel_rfl) rfl plain_ChunkBack (by kernel_rfl)
#print axioms chunkBack_holds

end Go.Proofs.YtebiajdkgpcidaaDoor
