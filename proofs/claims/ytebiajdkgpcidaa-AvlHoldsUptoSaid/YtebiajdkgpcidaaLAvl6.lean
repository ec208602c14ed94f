/-
  Taking out, by the evaluator.
-/
import Derived.Test.YtebiajdkgpcidaaLAvl5
import Derived.Test.YtebiajdkgpcidaaLClone
set_option linter.unusedSimpArgs false
set_option linter.unusedVariables false
set_option maxRecDepth 200000
set_option maxHeartbeats 4000000
namespace Go.Proofs.Ytebiajdkgpcidaa
open Go.Ev

theorem eT_nn : eT [T.no, T.no] = eT [B.n.t, B.n.t] := rfl
theorem avB_no : avT T.no = .agg [i64 0, .sl true [], .sl true [], .sl true [], .sl true []] := by
  simp only [avT, no_kind, no_key, no_value, no_digest, no_kids, eB_nil, eT_nil]
theorem cells_d1 {t : T} : t.cells.drop 1 = [.sl (eB t.key), .sl (eB t.value), .sl (eB t.digest), .sl (eT t.kids)] := by rw [cells_eq]; rfl
theorem cells_d2 {t : T} : t.cells.drop 2 = [.sl (eB t.value), .sl (eB t.digest), .sl (eT t.kids)] := by rw [cells_eq]; rfl
theorem cells_d4 {t : T} : t.cells.drop 4 = [.sl (eT t.kids)] := by rw [cells_eq]; rfl
attribute [go_sem] cells_d1 cells_d2 cells_d4
theorem isN_n : B.n.isN = true := rfl
theorem isN_d {l r : B} {k v : List UInt8} : ¬ (B.d l k v r).isN = true := by simp [B.isN]
abbrev oZ5 : Ev.Obj := .var [i64 0, .nilsl, .nilsl, .nilsl, .nilsl]
theorem take_least_loop (ll rr : T) : ∀ b : B, b.isN = false → b.t.size ≤ 1048576 → ∃ c : B, c.isN = false ∧ (∃ l' r', c = .d l' b.least.1 b.least.2 r') ∧
    L_avl_take_0 (s_avl_take_K0 (.ptr 1 0) (.ptr 2 0) (.ptr 3 0) (.ptr 4 0) [none, some oZ5, some (oT ll), some (oT rr), some (oT b.t)]) = some (.exit 1, s_avl_take_J1 (.ptr 1 0) (.ptr 2 0) (.ptr 3 0) (.ptr 4 0) [none, some oZ5, some (oT ll), some (oT rr), some (oT c.t)])
  | .n, h, _ => by simp [B.isN] at h
  | .d l k v r, _, hs => by
    rw [Bt_size] at hs
    cases l with
    | n =>
      refine ⟨.d .n k v r, rfl, ⟨.n, r, rfl⟩, ?_⟩
      rw [L_avl_take_0_eq]
      simp only [Bt_d, Bt_n]
      simp (maxSteps := 1000000) (disch := first | omega | (simp only [List.length_cons, List.length_nil, List.length_append, List.length_map, List.length_take, List.length_drop]; omega)) only [go_sem, ↓reduceIte, Nat.reduceSub, Nat.reduceAdd, Nat.reduceMul, Nat.reduceLeDiff, Nat.reduceLT, Nat.reduceEqDiff, Nat.reduceBEq, Int.reduceLE, Int.reduceLT, Int.reduceEq, Int.reduceNeg, Int.reduceAdd, Int.reduceSub, Int.reduceMul, Int.reduceToNat, i_avl_take_b0, oT]
    | d ll' lk lv lr =>
      obtain ⟨c, h1, ⟨l', r', h2⟩, h3⟩ := take_least_loop ll rr (.d ll' lk lv lr) rfl (by omega)
      refine ⟨c, h1, ⟨l', r', by rw [h2]; simp [B.least, B.isN]⟩, ?_⟩
      rw [L_avl_take_0_eq]
      generalize c.t = ct at *
      simp only [Bt_d] at *
      try simp (maxSteps := 1000000) (disch := first | omega | (simp only [List.length_cons, List.length_nil, List.length_append, List.length_map, List.length_take, List.length_drop]; omega)) only [go_sem, ↓reduceIte, Nat.reduceSub, Nat.reduceAdd, Nat.reduceMul, Nat.reduceLeDiff, Nat.reduceLT, Nat.reduceEqDiff, Nat.reduceBEq, Int.reduceLE, Int.reduceLT, Int.reduceEq, Int.reduceNeg, Int.reduceAdd, Int.reduceSub, Int.reduceMul, Int.reduceToNat, oT] at h3
      simp (maxSteps := 1000000) (disch := first | omega | (simp only [List.length_cons, List.length_nil, List.length_append, List.length_map, List.length_take, List.length_drop]; omega)) only [go_sem, ↓reduceIte, Nat.reduceSub, Nat.reduceAdd, Nat.reduceMul, Nat.reduceLeDiff, Nat.reduceLT, Nat.reduceEqDiff, Nat.reduceBEq, Int.reduceLE, Int.reduceLT, Int.reduceEq, Int.reduceNeg, Int.reduceAdd, Int.reduceSub, Int.reduceMul, Int.reduceToNat, i_avl_take_b0, oT, h3]
theorem avl_take_ev : ∀ (b : B) (k : List UInt8), srtP b.list → b.ok = true → b.t.size ≤ 1048576 → Ev tab G0 n_avl_take [avB b, .sl true (eB k)] [] = some ([avB (b.take k)], [])
  | .n, k, _, ho, hs => by
    simp only [B.take]
    simp only [avB_n]
    refine Ev_run t_avl_take rfl rfl ?_
    simp (maxSteps := 1000000) (disch := first | omega | (simp only [List.length_cons, List.length_nil, List.length_append, List.length_map, List.length_take, List.length_drop]; omega)) only [go_sem, ↓reduceIte, Nat.reduceSub, Nat.reduceAdd, Nat.reduceMul, Nat.reduceLeDiff, Nat.reduceLT, Nat.reduceEqDiff, Nat.reduceBEq, Int.reduceLE, Int.reduceLT, Int.reduceEq, Int.reduceNeg, Int.reduceAdd, Int.reduceSub, Int.reduceMul, Int.reduceToNat, i_avl_take]
  | .d l a b r, k, hsr, ho, hs => by
    obtain ⟨s1, s2, s3, s4⟩ := srt_d hsr
    rw [ok_d] at ho
    obtain ⟨o1, o2, o3, o4⟩ := ho
    rw [Bt_size] at hs
    have hc := bytes_Compare_ev k a
    simp only [B.take]
    by_cases c1 : cmp k a < 0
    · rw [if_pos c1]
      have h1 := avl_take_ev l k s1 o1 (by omega)
      have h2 := avl_node_ev (l.take k) a b r
      have hps := take_size l k s1
      have h3 := avl_leveled_ev (l.take k) a b r (by rw [Bt_size]; omega) (by rw [ok_d]; exact ⟨take_ok l k s1 o1, o2, o3, o4⟩)
      generalize l.take k = p at *
      generalize lev p a b r = q at *
      simp only [avB_d] at *
      refine Ev_run t_avl_take rfl rfl ?_
      simp (maxSteps := 1000000) (disch := first | omega | (simp only [List.length_cons, List.length_nil, List.length_append, List.length_map, List.length_take, List.length_drop]; omega)) only [go_sem, ↓reduceIte, Nat.reduceSub, Nat.reduceAdd, Nat.reduceMul, Nat.reduceLeDiff, Nat.reduceLT, Nat.reduceEqDiff, Nat.reduceBEq, Int.reduceLE, Int.reduceLT, Int.reduceEq, Int.reduceNeg, Int.reduceAdd, Int.reduceSub, Int.reduceMul, Int.reduceToNat, i_avl_take, hc, h1, h2, h3]
    · rw [if_neg c1]
      by_cases c2 : 0 < cmp k a
      · rw [if_pos c2]
        have h1 := avl_take_ev r k s2 o2 (by omega)
        have h2 := avl_node_ev l a b (r.take k)
        have hps := take_size r k s2
        have h3 := avl_leveled_ev l a b (r.take k) (by rw [Bt_size]; omega) (by rw [ok_d]; exact ⟨o1, take_ok r k s2 o2, o3, o4⟩)
        generalize r.take k = p at *
        generalize lev l a b p = q at *
        simp only [avB_d] at *
        refine Ev_run t_avl_take rfl rfl ?_
        simp (maxSteps := 1000000) (disch := first | omega | (simp only [List.length_cons, List.length_nil, List.length_append, List.length_map, List.length_take, List.length_drop]; omega)) only [go_sem, ↓reduceIte, Nat.reduceSub, Nat.reduceAdd, Nat.reduceMul, Nat.reduceLeDiff, Nat.reduceLT, Nat.reduceEqDiff, Nat.reduceBEq, Int.reduceLE, Int.reduceLT, Int.reduceEq, Int.reduceNeg, Int.reduceAdd, Int.reduceSub, Int.reduceMul, Int.reduceToNat, i_avl_take, hc, h1, h2, h3]
      · rw [if_neg c2]
        cases l with
        | n =>
          rw [if_pos isN_n]
          simp only [avB_d] at *
          simp only [Bt_n, Bt_d] at *
          refine Ev_run t_avl_take rfl rfl ?_
          simp (maxSteps := 1000000) (disch := first | omega | (simp only [List.length_cons, List.length_nil, List.length_append, List.length_map, List.length_take, List.length_drop]; omega)) only [go_sem, ↓reduceIte, Nat.reduceSub, Nat.reduceAdd, Nat.reduceMul, Nat.reduceLeDiff, Nat.reduceLT, Nat.reduceEqDiff, Nat.reduceBEq, Int.reduceLE, Int.reduceLT, Int.reduceEq, Int.reduceNeg, Int.reduceAdd, Int.reduceSub, Int.reduceMul, Int.reduceToNat, i_avl_take, hc]
        | d ll lk lv lr =>
          rw [if_neg isN_d]
          cases r with
          | n =>
            rw [if_pos isN_n]
            simp only [avB_d] at *
            simp only [Bt_n, Bt_d] at *
            refine Ev_run t_avl_take rfl rfl ?_
            simp (maxSteps := 1000000) (disch := first | omega | (simp only [List.length_cons, List.length_nil, List.length_append, List.length_map, List.length_take, List.length_drop]; omega)) only [go_sem, ↓reduceIte, Nat.reduceSub, Nat.reduceAdd, Nat.reduceMul, Nat.reduceLeDiff, Nat.reduceLT, Nat.reduceEqDiff, Nat.reduceBEq, Int.reduceLE, Int.reduceLT, Int.reduceEq, Int.reduceNeg, Int.reduceAdd, Int.reduceSub, Int.reduceMul, Int.reduceToNat, i_avl_take, hc]
          | d rl rk rv rr =>
            rw [if_neg isN_d]
            obtain ⟨q, hq⟩ := least_list (.d rl rk rv rr) rfl
            have hol := (ok_list (.d rl rk rv rr)).1 o2 (B.d rl rk rv rr).least (by rw [hq]; simp)
            have hsz := size_sum (.d rl rk rv rr)
            rw [hq] at hsz
            simp only [sumP] at hsz
            have htl : sumP ((B.d rl rk rv rr).take (B.d rl rk rv rr).least.1).list ≤ sumP q := by
              rw [take_list _ _ s2, hq, List.filter_cons, if_neg (by simp [cmp_self])]
              exact sumP_filter _ _
            have hts := size_sum ((B.d rl rk rv rr).take (B.d rl rk rv rr).least.1)
            have h1 := avl_take_ev (.d rl rk rv rr) (B.d rl rk rv rr).least.1 s2 o2 (by omega)
            have h2 := avl_node_ev (.d ll lk lv lr) (B.d rl rk rv rr).least.1 (B.d rl rk rv rr).least.2 ((B.d rl rk rv rr).take (B.d rl rk rv rr).least.1)
            have h3 := avl_leveled_ev (.d ll lk lv lr) (B.d rl rk rv rr).least.1 (B.d rl rk rv rr).least.2 ((B.d rl rk rv rr).take (B.d rl rk rv rr).least.1) (by rw [Bt_size]; omega) (by rw [ok_d]; exact ⟨o1, take_ok _ _ s2 o2, hol⟩)
            obtain ⟨c, k1, ⟨l', r', k2⟩, k3⟩ := take_least_loop (B.d ll lk lv lr).t (B.d rl rk rv rr).t (.d rl rk rv rr) rfl (by omega)
            subst k2
            generalize (B.d rl rk rv rr).take (B.d rl rk rv rr).least.1 = p at *
            generalize hlk : (B.d rl rk rv rr).least.1 = x at *
            generalize hlv : (B.d rl rk rv rr).least.2 = y at *
            generalize lev (.d ll lk lv lr) x y p = q2 at *
            simp only [avB_d] at *
            simp only [Bt_d] at *
            try simp (maxSteps := 1000000) (disch := first | omega | (simp only [List.length_cons, List.length_nil, List.length_append, List.length_map, List.length_take, List.length_drop]; omega)) only [go_sem, ↓reduceIte, Nat.reduceSub, Nat.reduceAdd, Nat.reduceMul, Nat.reduceLeDiff, Nat.reduceLT, Nat.reduceEqDiff, Nat.reduceBEq, Int.reduceLE, Int.reduceLT, Int.reduceEq, Int.reduceNeg, Int.reduceAdd, Int.reduceSub, Int.reduceMul, Int.reduceToNat, oT] at k3
            refine Ev_run t_avl_take rfl rfl ?_
            simp (maxSteps := 1000000) (disch := first | omega | (simp only [List.length_cons, List.length_nil, List.length_append, List.length_map, List.length_take, List.length_drop]; omega)) only [go_sem, ↓reduceIte, Nat.reduceSub, Nat.reduceAdd, Nat.reduceMul, Nat.reduceLeDiff, Nat.reduceLT, Nat.reduceEqDiff, Nat.reduceBEq, Int.reduceLE, Int.reduceLT, Int.reduceEq, Int.reduceNeg, Int.reduceAdd, Int.reduceSub, Int.reduceMul, Int.reduceToNat, i_avl_take, hc, h1, h2, h3, k3, hlk, hlv]
/-! ### The document's -/
theorem Bt_list : ∀ b : B, b.t.list.map (fun t => (t.key, t.value)) = b.list
  | .n => rfl
  | .d l k v r => by
    rw [list_two Bt_kids, List.map_append, List.map_cons, Bt_list l, Bt_list r]
    rfl
theorem Bt_list_len (b : B) : b.t.list.length = b.list.length := by rw [← Bt_list, List.length_map]
theorem least_t (b : B) (h : b.isN = false) : ∃ u q, b.t.list = u :: q ∧ u.key = b.least.1 ∧ u.value = b.least.2 := by
  obtain ⟨q, hq⟩ := least_list b h
  have := Bt_list b
  rw [hq] at this
  cases hl : b.t.list with
  | nil => rw [hl] at this; simp at this
  | cons u w =>
    rw [hl] at this
    simp only [List.map_cons, List.cons.injEq] at this
    exact ⟨u, w, rfl, by rw [← this.1], by rw [← this.1]⟩
end Go.Proofs.Ytebiajdkgpcidaa
