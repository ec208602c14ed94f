/-
  TreeLists: the nodes of any tree, by the order of their keys: the law answers true, whatever comes in that is of bulk at most 1048576; what came in reads as it did.
-/
import Derived.Test.YtebiajdkgpcidaaDoorTreeLists
import Derived.Test.YtebiajdkgpcidaaDoorLTypTreeD
import Derived.Test.YtebiajdkgpcidaaDoorRwD
set_option linter.unusedSimpArgs false
set_option linter.unusedVariables false
set_option maxRecDepth 200000
set_option maxHeartbeats 4000000
namespace Go.Proofs.YtebiajdkgpcidaaDoor
open Go.Ev

open Go.ChangeShapes Go.WideShapes Go.ChangeAt Go.RowKit
theorem tys_TreeLists : tyOk Tryd.prog [25, 3, 22, 5, 23] = true := by kernel_rfl
theorem contract_TreeLists {H : Type} {enc : TypeId × Value → H} {W : World} {base : Nat} {args : Array Value} {ds gs : List (DataW H)} {before : List MemPlace} (hval : ∀ (j : Nat) t v, Tryd.f5.params[j]? = some t → args[j]? = some v → Value.okWide Tryd.prog W .any base t v)
    (hW : DataW.Whole enc Tryd.prog Tryd.f5.params.toList Rows.treeListsSpec.vars false W args.toList ds gs before) (hL : laidMetH Tryd.prog Rows.treeListsUptoRow.laid W) (hk : Rows.uptoSmall H (ds ++ gs) = true) :
    Calls Tryd.prog 5 args W fun e W' => ∃ v, e = .returned v ∧ Rows.treeListsSpec.post enc Tryd.prog Tryd.f5 false true false false W args v W' := by
  have hgs : gs = [] := by
    obtain ⟨_, _, _, hV, _⟩ := hW
    exact (trodVars_none hV).1
  subst hgs
  refine law_postG (tb := 4) tabOk rfl laidOut tys_TreeLists (by rw [Tryd.params5]; simp) (by kernel_rfl) (by kernel_rfl) Tryd.underlying4 rfl (fun ds hds => ?_) (glob_ok hL) hval hW fun ess hlen hb has => ?_
  · rw [Tryd.params5] at hds
    match ds, hds with
    | [a0], _ => rfl
  · have hb2 := Nat.le_trans hb (small_le hk)
    rw [Tryd.params5] at hlen has ⊢
    match ess, hlen with
    | [e0], _ =>
      obtain ⟨n0, t0⟩ := has 0 _ e0 rfl rfl
      obtain ⟨x0, rfl⟩ := typ_tree t0
      simp only [cBLL, cBL, cB, cBLL_eB, cBLL_eI, cBLL_eBs] at hb2
      have s0 := tree_bulk x0
      rw [show (#[25] : Array TypeId).toList = [25] from rfl]
      simp only [argsOf, avOf, Tryd.underlying25, av1, ofC, List.map_cons, List.map_nil, cells_map]
      exact law_TreeLists x0 (by omega)

theorem met_TreeLists (os : Os) : laidMet Tryd.prog Rows.treeListsUptoRow.laid ((laidWorld os).forCall (fun _ _ => 0) ⟨#[], #[Value.agg #[.int .i64 0, .slice none 0 0, .slice none 0 0, .slice none 0 0, .slice none 0 0]], []⟩).memory :=
  laidMet_of_run' 8 (by kernel_rfl) (by kernel_rfl)
theorem reads_TreeLists (os : Os) {H : Type} (enc : TypeId × Value → H) : ∃ places, DataW.whole enc Tryd.prog ((laidWorld os).forCall (fun _ _ => 0) ⟨#[], #[Value.agg #[.int .i64 0, .slice none 0 0, .slice none 0 0, .slice none 0 0, .slice none 0 0]], []⟩).memory Tryd.f5.params.toList Rows.treeListsSpec.vars false #[Value.agg #[.int .i64 0, .slice none 0 0, .slice none 0 0, .slice none 0 0, .slice none 0 0]].toList 8 = some ([.agg [.lit (.int .i64 0), .nil, .nil, .nil, .nil]], [], places) :=
  ⟨[], by kernel_rfl⟩
set_option maxRecDepth 100000 in
theorem lifted_TreeLists (os : Os) (started : os.Started) (H : Type) (enc : TypeId × Value → H) (F : Stop.Interp) :
    ReturnsInHanded {} Tryd.checked os 5 .any ((Rows.OpenSpec.upto Rows.treeListsSpec).preRow enc Tryd.prog Tryd.f5 Rows.treeListsUptoRow.domain false Rows.treeListsUptoRow.laid) (((Rows.OpenSpec.upto Rows.treeListsSpec).at F).post enc Tryd.prog Tryd.f5 false true false false) := by
  obtain ⟨places, hx⟩ := reads_TreeLists os enc
  refine returnsInHanded_of_row (C := Tryd.checked) (s := Rows.OpenSpec.upto Rows.treeListsSpec) own started (by kernel_rfl) Tryd.func5
    (witness_row_at (enc := enc) (C := Tryd.checked) false (laidWorld os) #[Value.agg #[.int .i64 0, .slice none 0 0, .slice none 0 0, .slice none 0 0, .slice none 0 0]] rfl (by kernel_rfl) (by kernel_rfl) (by kernel_rfl)
      (OpenSpec.preRow_of_cond 8 hx (by kernel_rfl) (fun k hk => by cases hk; kernel_rfl) (by kernel_rfl) (met_TreeLists os))) ?_
  intro W base args ds gs before hval hW _ hcond _ hL _ _
  exact contract_TreeLists hval hW hL (hcond _ rfl)
theorem treeLists_said : Rows.TreeListsUptoSaid :=
  OpenClaim.holds_of_cond 5 Tryd.f5 rfl rfl rfl rfl rfl rfl rfl ⟨rfl, rfl, rfl, rfl, rfl⟩ rfl rfl rfl rfl rfl (by kernel_rfl) Tryd.func5 (by kernel_rfl)
    (of_decide_eq_true (by kernel_rfl)) (by unfold Func.isWrapper; first | (rw [if_pos (by decide +kernel)]; kernel_rfl) | (rw [if_neg (by decide +kernel)]; exact ⟨rfl, rfl⟩))
    (fun os started H enc _ F => by rw [OpenClaim.pre_eq_preRow]; exact lifted_TreeLists os started H enc F)
theorem plain_TreeLists (f : FuncId) (fn : Func) (hf : Tryd.pinned.checked.prog.funcNamed "heartwood/heartwoodlaw04.TreeLists" = some f) (hfn : Tryd.pinned.checked.prog.funcs[f]? = some fn) :
    true = Tryd.pinned.checked.prog.looks [] ∧ ∀ (j : Nat) t, fn.params[j]? = some t → Tryd.pinned.checked.prog.wantsStandIn t = false := by
  obtain rfl : f = 5 := Option.some.inj ((show Tryd.prog.funcNamed "heartwood/heartwoodlaw04.TreeLists" = some 5 by kernel_rfl).symm.trans hf) |>.symm
  obtain rfl : fn = Tryd.f5 := (Option.some.inj (Tryd.func5.symm.trans hfn)).symm
  refine ⟨by kernel_rfl, fun j t ht => ?_⟩
  rw [Tryd.params5] at ht
  have hm : t = 25 := by simpa using Array.mem_of_getElem? ht
  rcases hm with rfl
  · exact (show Tryd.prog.wantsStandIn 25 = false by kernel_rfl)
theorem treeLists_holds : Rows.TreeListsUptoCardSaid :=
  Claim7.holds_tied_plain_at .later [] _ _ _ _ treeLists_said (fun _ h => by cases h) (by kernel_rfl) (fun _ h => by cases h) treeListsUpto_row_tie rfl ⟨rfl, rfl⟩ (by kernel_rfl) rfl plain_TreeLists (by kernel_rfl)
#print axioms treeLists_holds

end Go.Proofs.YtebiajdkgpcidaaDoor
