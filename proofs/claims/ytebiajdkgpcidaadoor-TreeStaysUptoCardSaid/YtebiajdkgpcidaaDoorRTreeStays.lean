/-
  TreeStays: trees that are handed in stay as they are; a digest that was answered stays: the law answers true, whatever comes in that is of bulk at most 1048576; what came in reads as it did.
-/
import Derived.Test.YtebiajdkgpcidaaDoorTreeStays
import Derived.Test.YtebiajdkgpcidaaDoorLTypTreeD
import Derived.Test.YtebiajdkgpcidaaDoorRwD
set_option linter.unusedSimpArgs false
set_option linter.unusedVariables false
set_option maxRecDepth 200000
set_option maxHeartbeats 4000000
namespace Go.Proofs.YtebiajdkgpcidaaDoor
open Go.Ev

open Go.ChangeShapes Go.WideShapes Go.ChangeAt Go.RowKit
theorem tys_TreeStays : tyOk Tryd.prog [25, 3, 22, 5, 23] = true := by kernel_rfl
theorem contract_TreeStays {H : Type} {enc : TypeId × Value → H} {W : World} {base : Nat} {args : Array Value} {ds gs : List (DataW H)} {before : List MemPlace} (hval : ∀ (j : Nat) t v, Tryd.f6.params[j]? = some t → args[j]? = some v → Value.okWide Tryd.prog W .any base t v)
    (hW : DataW.Whole enc Tryd.prog Tryd.f6.params.toList Rows.treeStaysSpec.vars false W args.toList ds gs before) (hL : laidMetH Tryd.prog Rows.treeStaysUptoRow.laid W) (hk : Rows.uptoSmall H (ds ++ gs) = true) :
    Calls Tryd.prog 6 args W fun e W' => ∃ v, e = .returned v ∧ Rows.treeStaysSpec.post enc Tryd.prog Tryd.f6 false true false false W args v W' := by
  have hgs : gs = [] := by
    obtain ⟨_, _, _, hV, _⟩ := hW
    exact (trodVars_none hV).1
  subst hgs
  refine law_postG (tb := 4) tabOk rfl laidOut tys_TreeStays (by rw [Tryd.params6]; simp) (by kernel_rfl) (by kernel_rfl) Tryd.underlying4 rfl (fun ds hds => ?_) (glob_ok hL) hval hW fun ess hlen hb has => ?_
  · rw [Tryd.params6] at hds
    match ds, hds with
    | [a0], _ => rfl
  · have hb2 := Nat.le_trans hb (small_le hk)
    rw [Tryd.params6] at hlen has ⊢
    match ess, hlen with
    | [e0], _ =>
      obtain ⟨n0, t0⟩ := has 0 _ e0 rfl rfl
      obtain ⟨x0, rfl⟩ := typ_tree t0
      simp only [cBLL, cBL, cB, cBLL_eB, cBLL_eI, cBLL_eBs] at hb2
      have s0 := tree_bulk x0
      rw [show (#[25] : Array TypeId).toList = [25] from rfl]
      simp only [argsOf, avOf, Tryd.underlying25, av1, ofC, List.map_cons, List.map_nil, cells_map]
      exact law_TreeStays x0 (by omega)

theorem met_TreeStays (os : Os) : laidMet Tryd.prog Rows.treeStaysUptoRow.laid ((laidWorld os).forCall (fun _ _ => 0) ⟨#[], #[Value.agg #[.int .i64 0, .slice none 0 0, .slice none 0 0, .slice none 0 0, .slice none 0 0]], []⟩).memory :=
  laidMet_of_run' 8 (by kernel_rfl) (by kernel_rfl)
theorem reads_TreeStays (os : Os) {H : Type} (enc : TypeId × Value → H) : ∃ places, DataW.whole enc Tryd.prog ((laidWorld os).forCall (fun _ _ => 0) ⟨#[], #[Value.agg #[.int .i64 0, .slice none 0 0, .slice none 0 0, .slice none 0 0, .slice none 0 0]], []⟩).memory Tryd.f6.params.toList Rows.treeStaysSpec.vars false #[Value.agg #[.int .i64 0, .slice none 0 0, .slice none 0 0, .slice none 0 0, .slice none 0 0]].toList 8 = some ([.agg [.lit (.int .i64 0), .nil, .nil, .nil, .nil]], [], places) :=
  ⟨[], by kernel_rfl⟩
set_option maxRecDepth 100000 in
theorem lifted_TreeStays (os : Os) (started : os.Started) (H : Type) (enc : TypeId × Value → H) (F : Stop.Interp) :
    ReturnsInHanded {} Tryd.checked os 6 .any ((Rows.OpenSpec.upto Rows.treeStaysSpec).preRow enc Tryd.prog Tryd.f6 Rows.treeStaysUptoRow.domain false Rows.treeStaysUptoRow.laid) (((Rows.OpenSpec.upto Rows.treeStaysSpec).at F).post enc Tryd.prog Tryd.f6 false true false false) := by
  obtain ⟨places, hx⟩ := reads_TreeStays os enc
  refine returnsInHanded_of_row (C := Tryd.checked) (s := Rows.OpenSpec.upto Rows.treeStaysSpec) own started (by kernel_rfl) Tryd.func6
    (witness_row_at (enc := enc) (C := Tryd.checked) false (laidWorld os) #[Value.agg #[.int .i64 0, .slice none 0 0, .slice none 0 0, .slice none 0 0, .slice none 0 0]] rfl (by kernel_rfl) (by kernel_rfl) (by kernel_rfl)
      (OpenSpec.preRow_of_cond 8 hx (by kernel_rfl) (fun k hk => by cases hk; kernel_rfl) (by kernel_rfl) (met_TreeStays os))) ?_
  intro W base args ds gs before hval hW _ hcond _ hL _ _
  exact contract_TreeStays hval hW hL (hcond _ rfl)
theorem treeStays_said : Rows.TreeStaysUptoSaid :=
  OpenClaim.holds_of_cond 6 Tryd.f6 rfl rfl rfl rfl rfl rfl rfl ⟨rfl, rfl, rfl, rfl, rfl⟩ rfl rfl rfl rfl rfl (by kernel_rfl) Tryd.func6 (by kernel_rfl)
    (of_decide_eq_true (by kernel_rfl)) (by unfold Func.isWrapper; first | (rw [if_pos (by decide +kernel)]; kernel_rfl) | (rw [if_neg (by decide +kernel)]; exact ⟨rfl, rfl⟩))
    (fun os started H enc _ F => by rw [OpenClaim.pre_eq_preRow]; exact lifted_TreeStays os started H enc F)
theorem plain_TreeStays (f : FuncId) (fn : Func) (hf : Tryd.pinned.checked.prog.funcNamed "heartwood/heartwoodlaw04.TreeStays" = some f) (hfn : Tryd.pinned.checked.prog.funcs[f]? = some fn) :
    true = Tryd.pinned.checked.prog.looks [] ∧ ∀ (j : Nat) t, fn.params[j]? = some t → Tryd.pinned.checked.prog.wantsStandIn t = false := by
  obtain rfl : f = 6 := Option.some.inj ((show Tryd.prog.funcNamed "heartwood/heartwoodlaw04.TreeStays" = some 6 by kernel_rfl).symm.trans hf) |>.symm
  obtain rfl : fn = Tryd.f6 := (Option.some.inj (Tryd.func6.symm.trans hfn)).symm
  refine ⟨by kernel_rfl, fun j t ht => ?_⟩
  rw [Tryd.params6] at ht
  have hm : t = 25 := by simpa using Array.mem_of_getElem? ht
  rcases hm with rfl
  · exact (show Tryd.prog.wantsStandIn 25 = false by kernel_rfl)
theorem treeStays_holds : Rows.TreeStaysUptoCardSaid :=
  Claim7.holds_tied_plain_at .later [] _ _ _ _ treeStays_said (fun _ h => by cases h) (by kernel_rfl) (fun _ h => by cases h) treeStaysUpto_row_tie rfl ⟨rfl, rfl⟩ (by kernel_rfl) rfl plain_TreeStays (by kernel_rfl)
#print axioms treeStays_holds

end Go.Proofs.YtebiajdkgpcidaaDoor
