/-
  What the laws of balanced trees share.
-/
import Derived.Test.YtebiajdkgpcidaaLAvl7
import Derived.KernelRfl
set_option linter.unusedSimpArgs false
set_option linter.unusedVariables false
set_option maxRecDepth 200000
set_option maxHeartbeats 4000000
namespace Go.Proofs.Ytebiajdkgpcidaa
open Go.Ev

theorem askA_cases (t : T) (k v : List UInt8) : askA t k v = 0 ∨ askA t k v = 1 ∨ askA t k v = 3 := by unfold askA; split <;> (try split) <;> simp
theorem askA_zero {t : T} {k v : List UInt8} (h : askA t k v = 0) : t.isA = true ∧ k.length ≤ 80 ∧ v.length ≤ 1024 := by
  unfold askA at h
  split at h
  · split at h
    · cases h
    · rename_i h1 h2
      exact ⟨h1, by omega, by omega⟩
  · cases h
def getT (l : List T) (k : List UInt8) : Option (List UInt8) := (l.find? fun u => decide (cmp u.key k = 0)).map T.value
theorem getT_P (b : B) (k : List UInt8) : getT b.t.list k = getP b.list k := by
  unfold getT getP
  rw [← Bt_list, List.find?_map, Option.map_map]
  rfl
theorem rget_loop (l : List T) (k : List UInt8) (hl : l.length ≤ 1048576) : ∀ (n i : Nat), n + i = l.length → L_ref05_Get_0 (s_ref05_Get_K0 (.sl true (eB k)) (.sl true (eT l)) (i64 i) [none]) = match getT (l.drop i) k with
    | some v => some (.ret, s_ref05_Get_R (.sl true (eB v)) (bo true) [none])
    | none => some (.exit 0, s_ref05_Get_J0 [none])
  | 0, i, h => by
    rw [List.drop_of_length_le (by omega), L_ref05_Get_0_eq]
    simp only [getT, List.find?_nil, Option.map_none]
    simp (maxSteps := 1000000) (disch := first | omega | (simp only [List.length_cons, List.length_nil, List.length_append, List.length_map, List.length_take, List.length_drop]; omega)) only [go_sem, ↓reduceIte, Nat.reduceSub, Nat.reduceAdd, Nat.reduceMul, Nat.reduceLeDiff, Nat.reduceLT, Nat.reduceEqDiff, Nat.reduceBEq, Int.reduceLE, Int.reduceLT, Int.reduceEq, Int.reduceNeg, Int.reduceAdd, Int.reduceSub, Int.reduceMul, Int.reduceToNat, i_ref05_Get_b0]
  | n + 1, i, h => by
    have ih := rget_loop l k hl n (i + 1) (by omega)
    rw [drop_step (d := .no) (i := i) (by omega), L_ref05_Get_0_eq]
    generalize hd : l.getD i .no = u at *
    simp only [getT, List.find?_cons] at *
    by_cases c : cmp u.key k = 0
    · have e : (u.key == k) = true := by rw [eq_cmp]; exact decide_eq_true c
      rw [decide_eq_true c]
      simp only [Option.map_some]
      simp (maxSteps := 1000000) (disch := first | omega | (simp only [List.length_cons, List.length_nil, List.length_append, List.length_map, List.length_take, List.length_drop]; omega)) only [go_sem, ↓reduceIte, Nat.reduceSub, Nat.reduceAdd, Nat.reduceMul, Nat.reduceLeDiff, Nat.reduceLT, Nat.reduceEqDiff, Nat.reduceBEq, Int.reduceLE, Int.reduceLT, Int.reduceEq, Int.reduceNeg, Int.reduceAdd, Int.reduceSub, Int.reduceMul, Int.reduceToNat, i_ref05_Get_b0, hd, e]
    · have e : (u.key == k) = false := by rw [eq_cmp]; exact decide_eq_false c
      rw [decide_eq_false c]
      simp only
      rw [← ih]
      simp (maxSteps := 1000000) (disch := first | omega | (simp only [List.length_cons, List.length_nil, List.length_append, List.length_map, List.length_take, List.length_drop]; omega)) only [go_sem, ↓reduceIte, Nat.reduceSub, Nat.reduceAdd, Nat.reduceMul, Nat.reduceLeDiff, Nat.reduceLT, Nat.reduceEqDiff, Nat.reduceBEq, Int.reduceLE, Int.reduceLT, Int.reduceEq, Int.reduceNeg, Int.reduceAdd, Int.reduceSub, Int.reduceMul, Int.reduceToNat, i_ref05_Get_b0, hd, e]
theorem ref05_Get_ev (b : B) (k : List UInt8) (ho : b.ok = true) (hsr : srtP b.list) (hs : b.t.size ≤ 1048576) : Ev tab G0 n_ref05_Get [avB b, .sl true (eB k)] [] = some ([.sl true (eB ((b.get k).getD [])), bo (b.get k).isSome], []) := by
  have h1 := ref04_List_ev b.t (Bt_formed b ho) hs
  have hl := list_size b.t (Bt_formed b ho)
  have h2 := rget_loop b.t.list k (by omega) b.t.list.length 0 (by omega)
  have e0 : ((0 : Nat) : Int) = 0 := rfl
  rw [List.drop_zero, getT_P, ← get_list b k hsr, e0] at h2
  refine Ev_run t_ref05_Get rfl rfl ?_
  cases hget : b.get k with
  | none =>
    rw [hget] at h2
    simp only at h2
    simp (maxSteps := 1000000) (disch := first | omega | (simp only [List.length_cons, List.length_nil, List.length_append, List.length_map, List.length_take, List.length_drop]; omega)) only [go_sem, ↓reduceIte, Nat.reduceSub, Nat.reduceAdd, Nat.reduceMul, Nat.reduceLeDiff, Nat.reduceLT, Nat.reduceEqDiff, Nat.reduceBEq, Int.reduceLE, Int.reduceLT, Int.reduceEq, Int.reduceNeg, Int.reduceAdd, Int.reduceSub, Int.reduceMul, Int.reduceToNat, i_ref05_Get, h1, h2, Option.getD_none]
  | some v =>
    rw [hget] at h2
    simp only at h2
    simp (maxSteps := 1000000) (disch := first | omega | (simp only [List.length_cons, List.length_nil, List.length_append, List.length_map, List.length_take, List.length_drop]; omega)) only [go_sem, ↓reduceIte, Nat.reduceSub, Nat.reduceAdd, Nat.reduceMul, Nat.reduceLeDiff, Nat.reduceLT, Nat.reduceEqDiff, Nat.reduceBEq, Int.reduceLE, Int.reduceLT, Int.reduceEq, Int.reduceNeg, Int.reduceAdd, Int.reduceSub, Int.reduceMul, Int.reduceToNat, i_ref05_Get, h1, h2]
theorem errV_ne {c : Int} (h : ¬ c = 0) : errV c = errA c := if_neg h
/-! ### The laws -/
end Go.Proofs.Ytebiajdkgpcidaa
