/-
  ChunkJoins: whatever is laid together, or what is amiss first: the law answers true, whatever comes in that is of bulk at most 1048576; what came in reads as it did.
-/
import Derived.Test.YtdngljdbgepaiaaGreatDoorChunkJoins
import Derived.Test.YtdngljdbgepaiaaGreatDoorLTypTreesZ
import Derived.Test.YtdngljdbgepaiaaGreatDoorRwZ
set_option linter.unusedSimpArgs false
set_option linter.unusedVariables false
set_option maxRecDepth 200000
set_option maxHeartbeats 4000000
namespace Go.Proofs.YtdngljdbgepaiaaGreatDoor
open Go.Ev

open Go.ChangeShapes Go.WideShapes Go.ChangeAt Go.RowKit
theorem tys_ChunkJoins : tyOk Tryz.prog [3, 25, 22, 5, 23] = true := by kernel_rfl
theorem contract_ChunkJoins {H : Type} {enc : TypeId × Value → H} {W : World} {base : Nat} {args : Array Value} {ds gs : List (DataW H)} {before : List MemPlace} (hval : ∀ (j : Nat) t v, Tryz.f3.params[j]? = some t → args[j]? = some v → Value.okWide Tryz.prog W .any base t v)
    (hW : DataW.Whole enc Tryz.prog Tryz.f3.params.toList Rows.chunkJoinsSpec.vars false W args.toList ds gs before) (hL : laidMetH Tryz.prog Rows.chunkJoinsUptoRow.laid W) (hk : Rows.uptoSmall H (ds ++ gs) = true) :
    Calls Tryz.prog 3 args W fun e W' => ∃ v, e = .returned v ∧ Rows.chunkJoinsSpec.post enc Tryz.prog Tryz.f3 false true false false W args v W' := by
  have hgs : gs = [] := by
    obtain ⟨_, _, _, hV, _⟩ := hW
    exact (trodVars_none hV).1
  subst hgs
  refine law_postG (tb := 4) tabOk xok rfl laidOut tys_ChunkJoins (by rw [Tryz.params3]; simp) (by kernel_rfl) (by kernel_rfl) Tryz.underlying4 rfl (fun ds hds => ?_) (glob_ok hL) hval hW fun ess hlen hb has => ?_
  · rw [Tryz.params3] at hds
    match ds, hds with
    | [a0, a1, a2], _ => rfl
  · have hb2 := Nat.le_trans hb (small_le hk)
    rw [Tryz.params3] at hlen has ⊢
    match ess, hlen with
    | [e0, e1, e2], _ =>
      obtain ⟨n0, t0⟩ := has 0 _ e0 rfl rfl
      obtain ⟨x0, rfl, w0⟩ := typ_int Tryz.underlying3 t0
      simp [Lit.wf, IntKind.has, IntKind.min, IntKind.max, IntKind.signed, IntKind.bits] at w0
      obtain ⟨n1, t1⟩ := has 1 _ e1 rfl rfl
      obtain ⟨x1, rfl⟩ := typ_tree t1
      obtain ⟨n2, t2⟩ := has 2 _ e2 rfl rfl
      obtain ⟨x2, rfl⟩ := typ_trees t2
      simp only [cBLL, cBL, cB, cBLL_eB, cBLL_eI, cBLL_eBs] at hb2
      have s1 := tree_bulk x1
      have s2 := trees_bulk x2
      rw [show (#[3, 25, 23] : Array TypeId).toList = [3, 25, 23] from rfl]
      simp only [argsOf, avOf, Tryz.underlying3, Tryz.underlying23, Tryz.underlying25, av1, ofC, List.map_cons, List.map_nil, cells_map]
      exact law_ChunkJoins x0 x1 x2 (by omega) (by omega)

theorem met_ChunkJoins (os : Os) : laidMetH Tryz.prog Rows.chunkJoinsUptoRow.laid ((laidWorld os).forCall (fun _ _ => 0) ⟨#[], #[Value.int .i64 0, Value.agg #[.int .i64 0, .slice none 0 0, .slice none 0 0, .slice none 0 0, .slice none 0 0], Value.slice none 0 0], []⟩).memory :=
  laidMetH_of_parts (laidMet_of_run' 8 (by kernel_rfl) (by kernel_rfl)) (by kernel_rfl)
theorem reads_ChunkJoins (os : Os) {H : Type} (enc : TypeId × Value → H) : ∃ places, DataW.whole enc Tryz.prog ((laidWorld os).forCall (fun _ _ => 0) ⟨#[], #[Value.int .i64 0, Value.agg #[.int .i64 0, .slice none 0 0, .slice none 0 0, .slice none 0 0, .slice none 0 0], Value.slice none 0 0], []⟩).memory Tryz.f3.params.toList Rows.chunkJoinsSpec.vars false #[Value.int .i64 0, Value.agg #[.int .i64 0, .slice none 0 0, .slice none 0 0, .slice none 0 0, .slice none 0 0], Value.slice none 0 0].toList 8 = some ([.lit (.int .i64 0), .agg [.lit (.int .i64 0), .nil, .nil, .nil, .nil], .nil], [], places) :=
  ⟨[], by kernel_rfl⟩
set_option maxRecDepth 100000 in
theorem lifted_ChunkJoins (os : Os) (started : os.Started) (H : Type) (enc : TypeId × Value → H) (F : Stop.Interp) :
    ReturnsInHanded {} Tryz.checked os 3 .any ((Rows.OpenSpec.upto Rows.chunkJoinsSpec).preRow enc Tryz.prog Tryz.f3 Rows.chunkJoinsUptoRow.domain false Rows.chunkJoinsUptoRow.laid) (((Rows.OpenSpec.upto Rows.chunkJoinsSpec).at F).post enc Tryz.prog Tryz.f3 false true false false) := by
  obtain ⟨places, hx⟩ := reads_ChunkJoins os enc
  refine returnsInHanded_of_row (C := Tryz.checked) (s := Rows.OpenSpec.upto Rows.chunkJoinsSpec) own started (by kernel_rfl) Tryz.func3
    (witness_row_at (enc := enc) (C := Tryz.checked) false (laidWorld os) #[Value.int .i64 0, Value.agg #[.int .i64 0, .slice none 0 0, .slice none 0 0, .slice none 0 0, .slice none 0 0], Value.slice none 0 0] rfl (by kernel_rfl) (by kernel_rfl) (by kernel_rfl)
      (OpenSpec.preRow_of_cond 8 hx (by kernel_rfl) (fun k hk => by cases hk; kernel_rfl) (by kernel_rfl) (met_ChunkJoins os))) ?_
  intro W base args ds gs before hval hW _ hcond _ hL _ _
  exact contract_ChunkJoins hval hW hL (hcond _ rfl)
theorem chunkJoins_said : Rows.ChunkJoinsUptoSaid :=
  OpenClaim.holds_of_cond 3 Tryz.f3 rfl rfl rfl rfl rfl rfl rfl ⟨rfl, rfl, rfl, rfl, rfl⟩ rfl rfl rfl rfl rfl (by kernel_rfl) Tryz.func3 (by kernel_rfl)
    (of_decide_eq_true (by kernel_rfl)) (by unfold Func.isWrapper; first | (rw [if_pos (by decide +kernel)]; kernel_rfl) | (rw [if_neg (by decide +kernel)]; exact ⟨rfl, rfl⟩))
    (fun os started H enc _ F => by rw [OpenClaim.pre_eq_preRow]; exact lifted_ChunkJoins os started H enc F)
theorem plain_ChunkJoins (f : FuncId) (fn : Func) (hf : Tryz.pinned.checked.prog.funcNamed "heartwood/heartwoodlaw11.ChunkJoins" = some f) (hfn : Tryz.pinned.checked.prog.funcs[f]? = some fn) :
    true = Tryz.pinned.checked.prog.looks [] ∧ ∀ (j : Nat) t, fn.params[j]? = some t → Tryz.pinned.checked.prog.wantsStandIn t = false := by
  obtain rfl : f = 3 := Option.some.inj ((show Tryz.prog.funcNamed "heartwood/heartwoodlaw11.ChunkJoins" = some 3 by kernel_rfl).symm.trans hf) |>.symm
  obtain rfl : fn = Tryz.f3 := (Option.some.inj (Tryz.func3.symm.trans hfn)).symm
  refine ⟨by kernel_rfl, fun j t ht => ?_⟩
  rw [Tryz.params3] at ht
  have hm : t = 3 ∨ t = 25 ∨ t = 23 := by simpa using Array.mem_of_getElem? ht
  rcases hm with rfl | rfl | rfl
  · exact (show Tryz.prog.wantsStandIn 3 = false by kernel_rfl)
  · exact (show Tryz.prog.wantsStandIn 25 = false by kernel_rfl)
  · exact (show Tryz.prog.wantsStandIn 23 = false by kernel_rfl)
theorem chunkJoins_holds : Rows.ChunkJoinsUptoCardSaid :=
  Claim7.holds_tied_plain_at .later [] _ _ _ _ chunkJoins_said (fun _ h => by cases h) (by kernel_rfl) (fun _ h => by cases h) chunkJoinsUpto_row_tie rfl ⟨rfl, rfl⟩ (by kernel_rfl) rfl plain_ChunkJoins (by kernel_rfl)
#print axioms chunkJoins_holds

end Go.Proofs.YtdngljdbgepaiaaGreatDoor
