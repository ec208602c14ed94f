/-
  CoderReads: what a reader of any bytes tells: the law answers true, whatever comes in that is of bulk at most 1048576; what came in reads as it did.
-/
import Derived.Test.YtfbipgidlecmkaaCoderReads
import Derived.Test.YtfbipgidlecmkaaRw
set_option linter.unusedSimpArgs false
set_option linter.unusedVariables false
set_option maxRecDepth 200000
set_option maxHeartbeats 4000000
namespace Go.Proofs.Ytfbipgidlecmkaa
open Go.Ev

open Go.ChangeShapes Go.WideShapes Go.ChangeAt Go.RowKit
theorem tys_CoderReads : tyOk Try.prog [26, 5, 55, 61, 3] = true := by kernel_rfl
theorem contract_CoderReads {H : Type} {enc : TypeId × Value → H} {W : World} {base : Nat} {args : Array Value} {ds gs : List (DataW H)} {before : List MemPlace} (hval : ∀ (j : Nat) t v, Try.f12.params[j]? = some t → args[j]? = some v → Value.okWide Try.prog W .any base t v)
    (hW : DataW.Whole enc Try.prog Try.f12.params.toList Rows.coderReadsSpec.vars false W args.toList ds gs before) (hk : Rows.uptoSmall H (ds ++ gs) = true) :
    Calls Try.prog 12 args W fun e W' => ∃ v, e = .returned v ∧ Rows.coderReadsSpec.post enc Try.prog Try.f12 false true false false W args v W' := by
  have hgs : gs = [] := by
    obtain ⟨_, _, _, hV, _⟩ := hW
    exact (trodVars_none hV).1
  subst hgs
  refine law_post (tb := 4) tabOk laidOut tys_CoderReads (by rw [Try.params12]; simp) (by kernel_rfl) (by kernel_rfl) Try.underlying4 rfl (fun ds hds => ?_) hval hW fun ess hlen hb has => ?_
  · rw [Try.params12] at hds
    match ds, hds with
    | [a0, a1], _ => rfl
  · have hb2 := Nat.le_trans hb (small_le hk)
    rw [Try.params12] at hlen has ⊢
    match ess, hlen with
    | [e0, e1], _ =>
      obtain ⟨n0, t0⟩ := has 0 _ e0 rfl rfl
      obtain ⟨x0, rfl⟩ := typ_bytes Try.underlying26 Try.underlying5 t0
      obtain ⟨n1, t1⟩ := has 1 _ e1 rfl rfl
      obtain ⟨l1, rfl, m1, q1⟩ := typ_slice Try.underlying55 t1
      obtain ⟨x1, rfl, w1⟩ := list_of (f := cD) (p := fun d => (-9223372036854775808 ≤ d.1 ∧ d.1 < 9223372036854775808) ∧ -9223372036854775808 ≤ d.2 ∧ d.2 < 9223372036854775808) fun x hx => by
        obtain ⟨a, b, m, rfl, ha, hb⟩ := typ_two Try.underlying61 (by kernel_rfl) (by kernel_rfl) (q1 x hx)
        obtain ⟨i, hi, wi⟩ := typ_int Try.underlying3 ha
        obtain ⟨j, hj, wj⟩ := typ_int Try.underlying3 hb
        simp at hi hj
        subst hi hj
        simp [Lit.wf, IntKind.has, IntKind.min, IntKind.max, IntKind.signed, IntKind.bits] at wi wj
        exact ⟨(i, j), rfl, by simp only; omega⟩
      have z1 : x1.length ≤ cBLL (x1.map cD) := by
        have := cBLL_len (l := x1.map cD) fun x hx => by obtain ⟨d, _, rfl⟩ := List.mem_map.1 hx; simp [cD]
        simpa using this
      simp only [cBLL, cBL, cB, cBLL_eB, cBLL_eI, cBLL_eBs] at hb2
      rw [show (#[26, 55] : Array TypeId).toList = [26, 55] from rfl]
      simp only [argsOf, avOf, Try.underlying26, Try.underlying55, av1, ofC, List.map_cons, List.map_nil]
      exact law_CoderReads x0 x1 (by omega) (by omega) w1

set_option maxRecDepth 100000 in
theorem lifted_CoderReads (os : Os) (started : os.Started) (H : Type) (enc : TypeId × Value → H) (F : Stop.Interp) :
    ReturnsInHanded {} Try.checked os 12 .any ((Rows.OpenSpec.upto Rows.coderReadsSpec).pre6 enc Try.prog Try.f12 Rows.coderReadsUptoRow.domain false) (((Rows.OpenSpec.upto Rows.coderReadsSpec).at F).post enc Try.prog Try.f12 false true false false) := by
  refine returnsInHanded_of_cond (C := Try.checked) (s := Rows.OpenSpec.upto Rows.coderReadsSpec) (k := Rows.uptoSmall) rfl own started (by kernel_rfl) Try.func12
    (OpenSpec.witness (enc := enc) (C := Try.checked) (s := Rows.OpenSpec.upto Rows.coderReadsSpec) (k := Rows.uptoSmall) rfl false ⟨#[], #[.slice none 0 0, .slice none 0 0], []⟩ 8 (by kernel_rfl) (by kernel_rfl) (by kernel_rfl)
      (x := ([.nil, .nil], [], [])) (by kernel_rfl) rfl (by kernel_rfl)) ?_
  intro W base args ds gs before hval hW _ hk _
  exact contract_CoderReads hval hW hk

theorem coderReads_holds : Rows.CoderReadsUptoSaid :=
  OpenClaim.holds_of_cond 12 Try.f12 rfl rfl rfl rfl rfl rfl rfl ⟨rfl, rfl, rfl, rfl, rfl⟩ rfl rfl rfl rfl rfl (by kernel_rfl) Try.func12 (by kernel_rfl)
    (of_decide_eq_true (by kernel_rfl)) (by unfold Func.isWrapper; first | (rw [if_pos (by decide +kernel)]; kernel_rfl) | (rw [if_neg (by decide +kernel)]; exact ⟨rfl, rfl⟩))
    (fun os started H enc _ F => lifted_CoderReads os started H enc F)
#print axioms coderReads_holds

end Go.Proofs.Ytfbipgidlecmkaa
