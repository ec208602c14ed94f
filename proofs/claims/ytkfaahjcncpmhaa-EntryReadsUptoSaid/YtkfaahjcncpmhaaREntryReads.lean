/-
  EntryReads: the log, and the message, of any bytes, or what is amiss: the law answers true, whatever comes in that is of bulk at most 1048576; what came in reads as it did.
-/
import Derived.Test.YtkfaahjcncpmhaaEntryReads
import Derived.Test.YtkfaahjcncpmhaaRw
set_option linter.unusedSimpArgs false
set_option linter.unusedVariables false
set_option maxRecDepth 200000
set_option maxHeartbeats 4000000
namespace Go.Proofs.Ytkfaahjcncpmhaa
open Go.Ev

open Go.ChangeShapes Go.WideShapes Go.ChangeAt Go.RowKit
theorem tys_EntryReads : tyOk Try.prog [28, 5] = true := by kernel_rfl
theorem contract_EntryReads {H : Type} {enc : TypeId × Value → H} {W : World} {base : Nat} {args : Array Value} {ds gs : List (DataW H)} {before : List MemPlace} (hval : ∀ (j : Nat) t v, Try.f9.params[j]? = some t → args[j]? = some v → Value.okWide Try.prog W .any base t v)
    (hW : DataW.Whole enc Try.prog Try.f9.params.toList Rows.entryReadsSpec.vars false W args.toList ds gs before) (hk : Rows.uptoSmall H (ds ++ gs) = true) :
    Calls Try.prog 9 args W fun e W' => ∃ v, e = .returned v ∧ Rows.entryReadsSpec.post enc Try.prog Try.f9 false true false false W args v W' := by
  have hgs : gs = [] := by
    obtain ⟨_, _, _, hV, _⟩ := hW
    exact (trodVars_none hV).1
  subst hgs
  refine law_post (tb := 4) tabOk laidOut tys_EntryReads (by rw [Try.params9]; simp) (by kernel_rfl) (by kernel_rfl) Try.underlying4 rfl (fun ds hds => ?_) hval hW fun ess hlen hb has => ?_
  · rw [Try.params9] at hds
    match ds, hds with
    | [a0], _ => rfl
  · have hb2 := Nat.le_trans hb (small_le hk)
    rw [Try.params9] at hlen has ⊢
    match ess, hlen with
    | [e0], _ =>
      obtain ⟨n0, t0⟩ := has 0 _ e0 rfl rfl
      obtain ⟨x0, rfl⟩ := typ_bytes Try.underlying28 Try.underlying5 t0
      simp only [cBLL, cBL, cB, cBLL_eB, cBLL_eI, cBLL_eBs] at hb2
      rw [show (#[28] : Array TypeId).toList = [28] from rfl]
      simp only [argsOf, avOf, Try.underlying28, av1, ofC, List.map_cons, List.map_nil]
      exact law_EntryReads x0 (by omega)

set_option maxRecDepth 100000 in
theorem lifted_EntryReads (os : Os) (started : os.Started) (H : Type) (enc : TypeId × Value → H) (F : Stop.Interp) :
    ReturnsInHanded {} Try.checked os 9 .any ((Rows.OpenSpec.upto Rows.entryReadsSpec).pre6 enc Try.prog Try.f9 Rows.entryReadsUptoRow.domain false) (((Rows.OpenSpec.upto Rows.entryReadsSpec).at F).post enc Try.prog Try.f9 false true false false) := by
  refine returnsInHanded_of_cond (C := Try.checked) (s := Rows.OpenSpec.upto Rows.entryReadsSpec) (k := Rows.uptoSmall) rfl own started (by kernel_rfl) Try.func9
    (OpenSpec.witness (enc := enc) (C := Try.checked) (s := Rows.OpenSpec.upto Rows.entryReadsSpec) (k := Rows.uptoSmall) rfl false ⟨#[], #[.slice none 0 0], []⟩ 8 (by kernel_rfl) (by kernel_rfl) (by kernel_rfl)
      (x := ([.nil], [], [])) (by kernel_rfl) rfl (by kernel_rfl)) ?_
  intro W base args ds gs before hval hW _ hk _
  exact contract_EntryReads hval hW hk

theorem entryReads_holds : Rows.EntryReadsUptoSaid :=
  OpenClaim.holds_of_cond 9 Try.f9 rfl rfl rfl rfl rfl rfl rfl ⟨rfl, rfl, rfl, rfl, rfl⟩ rfl rfl rfl rfl rfl (by kernel_rfl) Try.func9 (by kernel_rfl)
    (of_decide_eq_true (by kernel_rfl)) (by unfold Func.isWrapper; first | (rw [if_pos (by decide +kernel)]; kernel_rfl) | (rw [if_neg (by decide +kernel)]; exact ⟨rfl, rfl⟩))
    (fun os started H enc _ F => lifted_EntryReads os started H enc F)
#print axioms entryReads_holds

end Go.Proofs.Ytkfaahjcncpmhaa
