/-
  The loops that write.
-/
import Derived.Test.YtfihodpdjpcpfaaLSpoil7
set_option linter.unusedSimpArgs false
set_option linter.unusedVariables false
set_option maxRecDepth 200000
set_option maxHeartbeats 4000000
namespace Go.Proofs.Ytfihodpdjpcpfaa
open Go.Ev

def qs9 : List Opr := [
  ⟨(some 35), .mv (.t 12), none, []⟩,
  ⟨(some 36), .mv (.t 8), none, []⟩,
  ⟨(some 37), .mv (.t 11), none, []⟩,
  ⟨(some 38), .ia 2 (.t 36) (.t 37), none, []⟩,
  ⟨(some 39), .fa 1 (.t 38), none, []⟩,
  ⟨(some 40), .load false 1 (.t 39), none, []⟩,
  ⟨(some 41), .len false (.t 40), none, []⟩,
  ⟨(some 42), .bin .plain .lss (.t 35) (.t 41), none, []⟩]
def qs10 : List Opr := [
  ⟨(some 43), .mv (.t 12), none, []⟩,
  ⟨(some 44), .bin .plain .add (.t 43) (.k (.int .i64 1)), none, []⟩,
  ⟨(some 12), .mv (.t 44), none, []⟩]
def qs7 : List Opr := [
  ⟨(some 29), .mv (.t 11), none, []⟩,
  ⟨(some 30), .mv (.t 8), none, []⟩,
  ⟨(some 31), .len false (.t 30), none, []⟩,
  ⟨(some 32), .bin .plain .lss (.t 29) (.t 31), none, []⟩]
def qs8 : List Opr := [⟨(some 12), .mv (.k (.int .i64 0)), none, []⟩]
def qs11 : List Opr := [
  ⟨(some 33), .mv (.t 11), none, []⟩,
  ⟨(some 34), .bin .plain .add (.t 33) (.k (.int .i64 1)), none, []⟩,
  ⟨(some 11), .mv (.t 34), none, []⟩]
abbrev stJ (v3 v5 v6 v7 v9 v10 : Value) (ps : List (List Int × List Int)) (i : Nat) : St := s_law06_ScanStays_J2 (.s v3) (.s v5) (.s v6) (.s v7) (.sl false (qP ps)) (.s v9) (.s v10) (i64 i) [none, none, none]
abbrev st9 (v3 v5 v6 v7 v9 v10 : Value) (ps : List (List Int × List Int)) (i k : Nat) (l m : List Int) : St := ⟨[.undef, .undef, .undef, .s v3, .undef, .s v5, .s v6, .s v7, .sl false (qP ps), .s v9, .s v10, i64 i, i64 k, .undef, .undef, .undef, .undef, .undef, .undef, .undef, .undef, .undef, .undef, .undef, .undef, .undef, .undef, .undef, .undef, .undef, .undef, .undef, .undef, .undef, .undef, i64 k, .sl false (qP ps), i64 i, .daddr false [C.sl (eI .u8 l), C.sl (eI .u8 m)], .daddr false [C.sl (eI .u8 m)], .sl false (eI .u8 m), i64 m.length, .s (.bool (decide ((k : Int) < (m.length : Int)))), .undef, .undef, .undef, .undef, .undef, .undef, .undef, .undef, .undef, .undef, .undef, .undef, .undef, .undef, .undef, .undef, .undef, .undef, .undef, .undef, .undef, .undef, .undef, .undef, .undef, .undef, .undef, .undef, .undef, .undef, .undef, .undef, .undef, .undef, .undef, .undef, .undef, .undef, .undef, .undef, .undef, .undef, .undef, .undef, .undef, .undef, .undef, .undef], [none, none, none]⟩
abbrev st10 (v3 v5 v6 v7 v9 v10 : Value) (ps : List (List Int × List Int)) (i k : Nat) : St := ⟨[.undef, .undef, .undef, .s v3, .undef, .s v5, .s v6, .s v7, .sl false (qP ps), .s v9, .s v10, i64 i, i64 (k + 1), .undef, .undef, .undef, .undef, .undef, .undef, .undef, .undef, .undef, .undef, .undef, .undef, .undef, .undef, .undef, .undef, .undef, .undef, .undef, .undef, .undef, .undef, .undef, .undef, .undef, .undef, .undef, .undef, .undef, .undef, i64 k, i64 (k + 1), .undef, .undef, .undef, .undef, .undef, .undef, .undef, .undef, .undef, .undef, .undef, .undef, .undef, .undef, .undef, .undef, .undef, .undef, .undef, .undef, .undef, .undef, .undef, .undef, .undef, .undef, .undef, .undef, .undef, .undef, .undef, .undef, .undef, .undef, .undef, .undef, .undef, .undef, .undef, .undef, .undef, .undef, .undef, .undef, .undef, .undef], [none, none, none]⟩
abbrev st7 (v3 v5 v6 v7 v9 v10 : Value) (ps : List (List Int × List Int)) (i : Nat) : St := ⟨[.undef, .undef, .undef, .s v3, .undef, .s v5, .s v6, .s v7, .sl false (qP ps), .s v9, .s v10, i64 i, .undef, .undef, .undef, .undef, .undef, .undef, .undef, .undef, .undef, .undef, .undef, .undef, .undef, .undef, .undef, .undef, .undef, i64 i, .sl false (qP ps), i64 ps.length, .s (.bool (decide ((i : Int) < (ps.length : Int)))), .undef, .undef, .undef, .undef, .undef, .undef, .undef, .undef, .undef, .undef, .undef, .undef, .undef, .undef, .undef, .undef, .undef, .undef, .undef, .undef, .undef, .undef, .undef, .undef, .undef, .undef, .undef, .undef, .undef, .undef, .undef, .undef, .undef, .undef, .undef, .undef, .undef, .undef, .undef, .undef, .undef, .undef, .undef, .undef, .undef, .undef, .undef, .undef, .undef, .undef, .undef, .undef, .undef, .undef, .undef, .undef, .undef, .undef], [none, none, none]⟩
abbrev st8 (v3 v5 v6 v7 v9 v10 : Value) (ps : List (List Int × List Int)) (i : Nat) : St := ⟨[.undef, .undef, .undef, .s v3, .undef, .s v5, .s v6, .s v7, .sl false (qP ps), .s v9, .s v10, i64 i, i64 0, .undef, .undef, .undef, .undef, .undef, .undef, .undef, .undef, .undef, .undef, .undef, .undef, .undef, .undef, .undef, .undef, .undef, .undef, .undef, .undef, .undef, .undef, .undef, .undef, .undef, .undef, .undef, .undef, .undef, .undef, .undef, .undef, .undef, .undef, .undef, .undef, .undef, .undef, .undef, .undef, .undef, .undef, .undef, .undef, .undef, .undef, .undef, .undef, .undef, .undef, .undef, .undef, .undef, .undef, .undef, .undef, .undef, .undef, .undef, .undef, .undef, .undef, .undef, .undef, .undef, .undef, .undef, .undef, .undef, .undef, .undef, .undef, .undef, .undef, .undef, .undef, .undef, .undef], [none, none, none]⟩
abbrev st11 (v3 v5 v6 v7 v9 v10 : Value) (ps : List (List Int × List Int)) (i : Nat) : St := ⟨[.undef, .undef, .undef, .s v3, .undef, .s v5, .s v6, .s v7, .sl false (qP ps), .s v9, .s v10, i64 (i + 1), .undef, .undef, .undef, .undef, .undef, .undef, .undef, .undef, .undef, .undef, .undef, .undef, .undef, .undef, .undef, .undef, .undef, .undef, .undef, .undef, .undef, i64 i, i64 (i + 1), .undef, .undef, .undef, .undef, .undef, .undef, .undef, .undef, .undef, .undef, .undef, .undef, .undef, .undef, .undef, .undef, .undef, .undef, .undef, .undef, .undef, .undef, .undef, .undef, .undef, .undef, .undef, .undef, .undef, .undef, .undef, .undef, .undef, .undef, .undef, .undef, .undef, .undef, .undef, .undef, .undef, .undef, .undef, .undef, .undef, .undef, .undef, .undef, .undef, .undef, .undef, .undef, .undef, .undef, .undef, .undef], [none, none, none]⟩
theorem eval9 (v3 v5 v6 v7 v9 v10 : Value) (ps : List (List Int × List Int)) (i k : Nat) (l m : List Int) (hi : i < ps.length) (hp : ps.getD i ([], []) = (l, m)) : app tab G0 3 [] (ex tab G0 3 (.reg [] qs9) (stK v3 v5 v6 v7 v9 v10 ps i k)) = some (.normal, st9 v3 v5 v6 v7 v9 v10 ps i k l m) := by
  simp (maxSteps := 1000000) (disch := first | omega | (simp only [List.length_cons, List.length_nil, List.length_append, List.length_map, List.length_take, List.length_drop]; omega)) only [go_sem, ↓reduceIte, Nat.reduceSub, Nat.reduceAdd, Nat.reduceMul, Nat.reduceLeDiff, Nat.reduceLT, Nat.reduceEqDiff, Nat.reduceBEq, Int.reduceLE, Int.reduceLT, Int.reduceEq, Int.reduceNeg, Int.reduceAdd, Int.reduceSub, Int.reduceMul, Int.reduceToNat, qs9, hp]
theorem eval10 (v3 v5 v6 v7 v9 v10 : Value) (ps : List (List Int × List Int)) (i k : Nat) (hk : k < 140737488355328) : app tab G0 3 [] (ex tab G0 3 (.reg [] qs10) (stK v3 v5 v6 v7 v9 v10 ps i k)) = some (.normal, st10 v3 v5 v6 v7 v9 v10 ps i k) := by
  simp (maxSteps := 1000000) (disch := first | omega | (simp only [List.length_cons, List.length_nil, List.length_append, List.length_map, List.length_take, List.length_drop]; omega)) only [go_sem, ↓reduceIte, Nat.reduceSub, Nat.reduceAdd, Nat.reduceMul, Nat.reduceLeDiff, Nat.reduceLT, Nat.reduceEqDiff, Nat.reduceBEq, Int.reduceLE, Int.reduceLT, Int.reduceEq, Int.reduceNeg, Int.reduceAdd, Int.reduceSub, Int.reduceMul, Int.reduceToNat, qs10]
theorem eval7 (v3 v5 v6 v7 v9 v10 : Value) (ps : List (List Int × List Int)) (i : Nat) : app tab G0 3 [] (ex tab G0 3 (.reg [] qs7) (stJ v3 v5 v6 v7 v9 v10 ps i)) = some (.normal, st7 v3 v5 v6 v7 v9 v10 ps i) := by
  simp (maxSteps := 1000000) (disch := first | omega | (simp only [List.length_cons, List.length_nil, List.length_append, List.length_map, List.length_take, List.length_drop]; omega)) only [go_sem, ↓reduceIte, Nat.reduceSub, Nat.reduceAdd, Nat.reduceMul, Nat.reduceLeDiff, Nat.reduceLT, Nat.reduceEqDiff, Nat.reduceBEq, Int.reduceLE, Int.reduceLT, Int.reduceEq, Int.reduceNeg, Int.reduceAdd, Int.reduceSub, Int.reduceMul, Int.reduceToNat, qs7]
theorem eval8 (v3 v5 v6 v7 v9 v10 : Value) (ps : List (List Int × List Int)) (i : Nat) : app tab G0 3 [] (ex tab G0 3 (.reg [] qs8) (stJ v3 v5 v6 v7 v9 v10 ps i)) = some (.normal, st8 v3 v5 v6 v7 v9 v10 ps i) := by
  simp (maxSteps := 1000000) (disch := first | omega | (simp only [List.length_cons, List.length_nil, List.length_append, List.length_map, List.length_take, List.length_drop]; omega)) only [go_sem, ↓reduceIte, Nat.reduceSub, Nat.reduceAdd, Nat.reduceMul, Nat.reduceLeDiff, Nat.reduceLT, Nat.reduceEqDiff, Nat.reduceBEq, Int.reduceLE, Int.reduceLT, Int.reduceEq, Int.reduceNeg, Int.reduceAdd, Int.reduceSub, Int.reduceMul, Int.reduceToNat, qs8]
theorem eval11 (v3 v5 v6 v7 v9 v10 : Value) (ps : List (List Int × List Int)) (i : Nat) (hi : i < 140737488355328) : app tab G0 3 [] (ex tab G0 3 (.reg [] qs11) (stJ v3 v5 v6 v7 v9 v10 ps i)) = some (.normal, st11 v3 v5 v6 v7 v9 v10 ps i) := by
  simp (maxSteps := 1000000) (disch := first | omega | (simp only [List.length_cons, List.length_nil, List.length_append, List.length_map, List.length_take, List.length_drop]; omega)) only [go_sem, ↓reduceIte, Nat.reduceSub, Nat.reduceAdd, Nat.reduceMul, Nat.reduceLeDiff, Nat.reduceLT, Nat.reduceEqDiff, Nat.reduceBEq, Int.reduceLE, Int.reduceLT, Int.reduceEq, Int.reduceNeg, Int.reduceAdd, Int.reduceSub, Int.reduceMul, Int.reduceToNat, qs11]

theorem likeQ.refl (l : List (List Int × List Int)) : likeQ l l := ⟨rfl, fun _ _ => rfl⟩
theorem b1_inv {c : Code} (h : trIR Try.prog c i_law06_ScanStays_b1 = some i_law06_ScanStays_b1) : ∃ r9 kk s9 r12 r10, c = .seq (.seq r9 (.cond kk s9 (.exit 2))) (.seq (.block 3 r12) r10) ∧ trO kk = .t 42 ∧ trIR Try.prog s9 .skip = some .skip ∧ trIR Try.prog r9 (.reg [] qs9) = some (.reg [] qs9) ∧ trIR Try.prog r10 (.reg [] qs10) = some (.reg [] qs10) := by
  obtain ⟨d, e, rfl, h1, h2⟩ := trIR_seq h
  obtain ⟨d1, d2, rfl, h3, h4⟩ := trIR_seq h1
  obtain ⟨e1, e2, rfl, h5, h6⟩ := trIR_seq h2
  obtain ⟨kk, f1, f2, rfl, hk, h7, h8⟩ := trIR_cond h4
  obtain ⟨rfl, _⟩ := trIR_exit h8
  obtain ⟨r12, rfl, _, h9⟩ := trIR_block h5
  exact ⟨d1, kk, f1, r12, e2, rfl, hk.symm, h7, h3, h6⟩
theorem inner {c : Code} (ht : trIR Try.prog c i_law06_ScanStays_b1 = some i_law06_ScanStays_b1) (hr : ∃ id, cAt c [1, 0, 0] = .region id ops12 true) {x : Cx} {a : Act} {v3 v5 v6 v7 v9 v10 : Value} {ps : List (List Int × List Int)} {i : Nat} (hs : RelS G0 x (stK v3 v5 v6 v7 v9 v10 ps i 0) a) (hnf : NF x.B0 x.w) (hi : i < ps.length)
    (hl : (ps.getD i ([], [])).2.length < 140737488355328) {Q : Exit → Act → World → Prop} (hQ : ∀ ps' x' a', likeQ ps ps' → RelS G0 x' (stJ v3 v5 v6 v7 v9 v10 ps' i) a' → x'.B0 = x.B0 → Low x.B0 x.w x'.w → a'.defers = a.defers → Q (.exit 2) a' x'.w) : (Code.loop c).wp Try.prog Q a x.w := by
  obtain ⟨r9, kk, s9, r12, r10, rfl, hkk, hs9, h9, h10⟩ := b1_inv ht
  obtain ⟨id12, hr⟩ := hr
  simp only [cAt, if_true, if_false, Nat.one_ne_zero] at hr
  subst hr
  refine wp_loop_ghost (fun n a' w' => ∃ ps' x' k, x'.w = w' ∧ likeQ ps ps' ∧ RelS G0 x' (stK v3 v5 v6 v7 v9 v10 ps' i k) a' ∧ x'.B0 = x.B0 ∧ Low x.B0 x.w x'.w ∧ a'.defers = a.defers ∧ k + n = (ps.getD i ([], [])).2.length) (ps.getD i ([], [])).2.length
    ⟨ps, x, 0, rfl, likeQ.refl ps, hs, rfl, Low.refl _ _, rfl, by simp⟩ ?_
  rintro n a1 w1 ⟨ps1, x1, k, rfl, hq1, hs1, hB1, hL1, hd1, hk⟩
  have hi1 : i < ps1.length := by rw [hq1.1]; exact hi
  have hl1 := hq1.2 i hi
  generalize hp : ps1.getD i ([], []) = p at hl1
  obtain ⟨l, m⟩ := p
  change m.length = _ at hl1
  refine wp_seq (wp_seq ?_)
  refine seg_ok tabOk xokN gfN h9 hs1 (eval9 v3 v5 v6 v7 v9 v10 ps1 i k l m hi1 hp) fun x2 a2 hs2 hst2 hd2 => ?_
  have hL2 : Low x.B0 x.w x2.w := hL1.trans (hB1 ▸ Low.ofStep hs1.b0 hst2)
  have hB2 : x2.B0 = x.B0 := hst2.ext.b0.trans hB1
  have hv := hs2.opd kk
  rw [hkk] at hv
  by_cases c : (k : Int) < (m.length : Int)
  · have hv' : RelV x2 [none, none, none] (.s (.bool (decide ((k : Int) < (m.length : Int))))) (a2.eval kk) := hv
    rw [decide_eq_true c] at hv'
    refine wp_cond_true hv'.s_inv ?_
    have hs2' := keep_rel hs2 i_law06_ScanStays_k1
    refine seg_ok (tab := tab) (ns := 3) (e := .normal) (st' := stK v3 v5 v6 v7 v9 v10 ps1 i k) tabOk xokN gfN hs9 hs2' rfl fun x3 a3 hs3 hst3 hd3 => ?_
    have hL3 : Low x.B0 x.w x3.w := hL2.trans (hB2 ▸ Low.ofStep hs2.b0 hst3)
    have hB3 : x3.B0 = x.B0 := hst3.ext.b0.trans hB2
    refine wp_seq (wp_block ?_)
    refine write12 hs3 (by rw [hB3]; exact hL3.nf hnf) hi1 (by rw [hp]; exact_mod_cast c) fun ps4 x4 a4 hq4 hs4 hB4 hL4 hd4 => ?_
    rw [hB3] at hB4 hL4
    have hL4 := hL3.trans hL4
    refine seg_ok tabOk xokN gfN h10 hs4 (eval10 v3 v5 v6 v7 v9 v10 ps4 i k (by have : k < m.length := by exact_mod_cast c
                                                                                omega)) fun x5 a5 hs5 hst5 hd5 => ?_
    refine ⟨n - 1, ?_, ps4, x5, k + 1, rfl, hq1.trans hq4, ?_, hst5.ext.b0.trans hB4, hL4.trans (hB4 ▸ Low.ofStep hs4.b0 hst5), (hd5.trans (hd4.trans (hd3.trans hd2))).trans hd1, ?_⟩
    · have : k < m.length := by exact_mod_cast c
      omega
    · have := keep_rel hs5 i_law06_ScanStays_k1
      exact this
    · have : k < m.length := by exact_mod_cast c
      omega
  · have hv' : RelV x2 [none, none, none] (.s (.bool (decide ((k : Int) < (m.length : Int))))) (a2.eval kk) := hv
    rw [decide_eq_false c] at hv'
    refine wp_cond_false hv'.s_inv ?_
    refine wp_exit ?_
    exact hQ ps1 x2 a2 hq1 (keep_rel hs2 i_law06_ScanStays_j2) hB2 hL2 (hd2.trans hd1)

abbrev stE (v3 v5 v6 v7 v9 v10 : Value) : St := s_law06_ScanStays_J0 (.s v3) (.s v5) (.s v6) (.s v7) (.s v9) (.s v10) [none, none, none]
theorem b0_inv {c : Code} (h : trIR Try.prog c i_law06_ScanStays_b0 = some i_law06_ScanStays_b0) : ∃ r7 kk s7 r8 c1 r11, c = .seq (.seq r7 (.cond kk s7 (.exit 0))) (.seq (.block 1 (.seq r8 (.block 2 (.loop c1)))) r11) ∧ trO kk = .t 32 ∧ trIR Try.prog s7 .skip = some .skip ∧ trIR Try.prog r7 (.reg [] qs7) = some (.reg [] qs7) ∧ trIR Try.prog r8 (.reg [] qs8) = some (.reg [] qs8) ∧ trIR Try.prog r11 (.reg [] qs11) = some (.reg [] qs11) ∧ trIR Try.prog c1 i_law06_ScanStays_b1 = some i_law06_ScanStays_b1 := by
  obtain ⟨d, e, rfl, h1, h2⟩ := trIR_seq h
  obtain ⟨d1, d2, rfl, h3, h4⟩ := trIR_seq h1
  obtain ⟨e1, e2, rfl, h5, h6⟩ := trIR_seq h2
  obtain ⟨kk, f1, f2, rfl, hk, h7, h8⟩ := trIR_cond h4
  obtain ⟨rfl, _⟩ := trIR_exit h8
  obtain ⟨g, rfl, _, h9⟩ := trIR_block h5
  obtain ⟨g1, g2, rfl, h10, h11⟩ := trIR_seq h9
  obtain ⟨g3, rfl, _, h12⟩ := trIR_block h11
  obtain ⟨c1, rfl, _, h13⟩ := trIR_loop h12
  exact ⟨d1, kk, f1, g1, c1, e2, rfl, hk.symm, h7, h3, h10, h6, h13⟩
theorem outer {c : Code} (ht : trIR Try.prog c i_law06_ScanStays_b0 = some i_law06_ScanStays_b0) (hr : ∃ id, cAt c [1, 0, 0, 1, 0, 0, 1, 0, 0] = .region id ops12 true) {x : Cx} {a : Act} {v3 v5 v6 v7 v9 v10 : Value} {ps : List (List Int × List Int)} (hs : RelS G0 x (stJ v3 v5 v6 v7 v9 v10 ps 0) a) (hnf : NF x.B0 x.w)
    (hn : ps.length < 140737488355328) (hl : ∀ i, i < ps.length → (ps.getD i ([], [])).2.length < 140737488355328) {Q : Exit → Act → World → Prop} (hQ : ∀ x' a', RelS G0 x' (stE v3 v5 v6 v7 v9 v10) a' → x'.B0 = x.B0 → Low x.B0 x.w x'.w → a'.defers = a.defers → Q (.exit 0) a' x'.w) : (Code.loop c).wp Try.prog Q a x.w := by
  obtain ⟨r7, kk, s7, r8, c1, r11, rfl, hkk, hs7, h7, h8, h11, hc1⟩ := b0_inv ht
  simp only [cAt, if_true, if_false, Nat.one_ne_zero] at hr
  refine wp_loop_ghost (fun n a' w' => ∃ ps' x' i, x'.w = w' ∧ likeQ ps ps' ∧ RelS G0 x' (stJ v3 v5 v6 v7 v9 v10 ps' i) a' ∧ x'.B0 = x.B0 ∧ Low x.B0 x.w x'.w ∧ a'.defers = a.defers ∧ i + n = ps.length) ps.length
    ⟨ps, x, 0, rfl, likeQ.refl ps, hs, rfl, Low.refl _ _, rfl, by simp⟩ ?_
  rintro n a1 w1 ⟨ps1, x1, i, rfl, hq1, hs1, hB1, hL1, hd1, hk⟩
  have hn1 := hq1.1
  refine wp_seq (wp_seq ?_)
  refine seg_ok tabOk xokN gfN h7 hs1 (eval7 v3 v5 v6 v7 v9 v10 ps1 i) fun x2 a2 hs2 hst2 hd2 => ?_
  have hL2 : Low x.B0 x.w x2.w := hL1.trans (hB1 ▸ Low.ofStep hs1.b0 hst2)
  have hB2 : x2.B0 = x.B0 := hst2.ext.b0.trans hB1
  have hv := hs2.opd kk
  rw [hkk] at hv
  by_cases c : (i : Int) < (ps1.length : Int)
  · have hv' : RelV x2 [none, none, none] (.s (.bool (decide ((i : Int) < (ps1.length : Int))))) (a2.eval kk) := hv
    rw [decide_eq_true c] at hv'
    have hi1 : i < ps1.length := by exact_mod_cast c
    have hi : i < ps.length := by omega
    refine wp_cond_true hv'.s_inv ?_
    have hs2' := keep_rel hs2 i_law06_ScanStays_k0
    refine seg_ok (tab := tab) (ns := 3) (e := .normal) (st' := stJ v3 v5 v6 v7 v9 v10 ps1 i) tabOk xokN gfN hs7 hs2' rfl fun x3 a3 hs3 hst3 hd3 => ?_
    have hL3 : Low x.B0 x.w x3.w := hL2.trans (hB2 ▸ Low.ofStep hs2.b0 hst3)
    have hB3 : x3.B0 = x.B0 := hst3.ext.b0.trans hB2
    refine wp_seq (wp_block (wp_seq ?_))
    refine seg_ok tabOk xokN gfN h8 hs3 (eval8 v3 v5 v6 v7 v9 v10 ps1 i) fun x4 a4 hs4 hst4 hd4 => ?_
    have hL4 : Low x.B0 x.w x4.w := hL3.trans (hB3 ▸ Low.ofStep hs3.b0 hst4)
    have hB4 : x4.B0 = x.B0 := hst4.ext.b0.trans hB3
    refine wp_block ?_
    refine inner hc1 hr hs4 (by rw [hB4]; exact hL4.nf hnf) hi1 (by rw [hq1.2 i hi]; exact hl i hi) fun ps5 x5 a5 hq5 hs5 hB5 hL5 hd5 => ?_
    rw [hB4] at hB5 hL5
    have hL5 := hL4.trans hL5
    refine seg_ok tabOk xokN gfN h11 hs5 (eval11 v3 v5 v6 v7 v9 v10 ps5 i (by omega)) fun x6 a6 hs6 hst6 hd6 => ?_
    refine ⟨n - 1, by omega, ps5, x6, i + 1, rfl, hq1.trans hq5, ?_, hst6.ext.b0.trans hB5, hL5.trans (hB5 ▸ Low.ofStep hs5.b0 hst6), (hd6.trans (hd5.trans (hd4.trans (hd3.trans hd2)))).trans hd1, by omega⟩
    have := keep_rel hs6 i_law06_ScanStays_k0
    exact this
  · have hv' : RelV x2 [none, none, none] (.s (.bool (decide ((i : Int) < (ps1.length : Int))))) (a2.eval kk) := hv
    rw [decide_eq_false c] at hv'
    refine wp_cond_false hv'.s_inv ?_
    refine wp_exit ?_
    exact hQ x2 a2 (keep_rel hs2 i_law06_ScanStays_j0) hB2 hL2 (hd2.trans hd1)


end Go.Proofs.Ytfihodpdjpcpfaa
