/-
  A tree cut into a head and parts.
-/
import Derived.Test.YtdngljdbgepaiaaGreatDoorLTold2
set_option linter.unusedSimpArgs false
set_option linter.unusedVariables false
set_option maxRecDepth 200000
set_option maxHeartbeats 4000000
namespace Go.Proofs.YtdngljdbgepaiaaGreatDoor
open Go.Ev

def headT (w : Int) : Nat → T → T
  | 0, t => match t.kids with
    | [] => t
    | _ => .mk 3 [] [] (dgV (t.dig w)) []
  | n + 1, t => match t.kids with
    | [l, r] => .mk t.kind t.key t.value [] [headT w n l, headT w n r]
    | _ => t
def partT : Nat → T → List T
  | 0, t => match t.kids with
    | [] => []
    | _ => [t]
  | n + 1, t => match t.kids with
    | [l, r] => partT n l ++ partT n r
    | _ => []
theorem headT_nil {w : Int} {n : Nat} {t : T} (h : t.kids = []) : headT w n t = t := by
  cases n <;> (unfold headT; rw [h])
theorem partT_nil {n : Nat} {t : T} (h : t.kids = []) : partT n t = [] := by
  cases n <;> (unfold partT; rw [h])
theorem headT_0 {w : Int} {t l r : T} (h : t.kids = [l, r]) : headT w 0 t = .mk 3 [] [] (dgV (t.dig w)) [] := by
  unfold headT; rw [h]
theorem partT_0 {t l r : T} (h : t.kids = [l, r]) : partT 0 t = [t] := by
  unfold partT; rw [h]
theorem headT_s {w : Int} {n : Nat} {t l r : T} (h : t.kids = [l, r]) : headT w (n + 1) t = .mk t.kind t.key t.value [] [headT w n l, headT w n r] := by
  conv => lhs; unfold headT
  rw [h]
theorem partT_s {n : Nat} {t l r : T} (h : t.kids = [l, r]) : partT (n + 1) t = partT n l ++ partT n r := by
  conv => lhs; unfold partT
  rw [h]
theorem partT_len : ∀ t : T, t.formed = true → ∀ n, (partT n t).length ≤ t.size := F_ind
  (fun t hf h n => by rw [partT_nil h]; simp)
  fun t l r hf h hl hr il ir n => by
    have hz := size_two h
    cases n with
    | zero => rw [partT_0 h]; simp; omega
    | succ n =>
      rw [partT_s h, List.length_append]
      have := il n
      have := ir n
      omega
abbrev oW (w : Int) : Ev.Obj := .var [i64 w]
abbrev oC (k : Nat) : Ev.Obj := .var [.clos n_chunk_Cut_1 [.ptr 0 0, .ptr 1 0, .ptr k 0]]
def kC : List T → Nat
  | [] => 2
  | _ :: _ => 3
def inC (w : Int) : List T → List Ev.Obj
  | [] => [oW w, .var [.nilsl], oC 2]
  | t :: l => [oW w, .var [.row 2 (l.length + 1)], rowT (t :: l), oC 3]
def outC (w : Int) : List T → List T → List Ev.Obj
  | [], [] => [oW w, .var [.nilsl], oC 2]
  | [], t :: l => [oW w, .var [.row 3 (l.length + 1)], oC 2, rowT (t :: l)]
  | _ :: _, l => [oW w, .var [.row 2 l.length], rowT l, oC 3]
theorem kC_ne {l : List T} (h : l ≠ []) : kC l = 3 := by cases l with | nil => exact absurd rfl h | cons b l => rfl
theorem inC_ne {w : Int} {l : List T} (h : l ≠ []) : inC w l = [oW w, .var [.row 2 l.length], rowT l, oC 3] := by cases l with | nil => exact absurd rfl h | cons b l => rfl
theorem outC_ne {w : Int} {a l : List T} (h : a ≠ []) : outC w a l = [oW w, .var [.row 2 l.length], rowT l, oC 3] := by cases a with | nil => exact absurd rfl h | cons b a => rfl
theorem outC_new {w : Int} {l : List T} (h : l ≠ []) : outC w [] l = [oW w, .var [.row 3 l.length], oC 2, rowT l] := by cases l with | nil => exact absurd rfl h | cons b l => rfl
theorem outC_nil {w : Int} : outC w [] [] = [oW w, .var [.nilsl], oC 2] := rfl
theorem inC_nil {w : Int} : inC w [] = [oW w, .var [.nilsl], oC 2] := rfl
theorem kC_nil : kC [] = 2 := rfl

theorem cut1_nil (w : Int) (t : T) (h : t.kids = []) (n : Nat) (hn : n ≤ 64) (acc : List T) (ha : acc.length ≤ 2097152) : Ev tab G0 n_chunk_Cut_1 [avT t, i64 n, .ptr 0 0, .ptr 1 0, .ptr (kC acc) 0] (inC w acc) = some ([avT (headT w n t)], outC w acc (acc ++ partT n t)) := by
  have ea : avT t = .agg [i64 t.kind, .sl true (eB t.key), .sl true (eB t.value), .sl true (eB t.digest), .sl true (eT [])] := by rw [← h]
  rw [headT_nil h, partT_nil h, List.append_nil]
  cases acc with
  | nil =>
    rw [inC_nil, outC_nil, kC_nil]
    refine Ev_run t_chunk_Cut_1 rfl rfl ?_
    simp (maxSteps := 1000000) (disch := first | omega | (simp only [lens, List.length_map]; omega)) only [go_sem, ↓reduceIte, Nat.reduceSub, Nat.reduceAdd, Nat.reduceMul, Nat.reduceLeDiff, Nat.reduceLT, Nat.reduceEqDiff, Nat.reduceBEq, Int.reduceLE, Int.reduceLT, Int.reduceEq, Int.reduceNeg, Int.reduceAdd, Int.reduceSub, Int.reduceMul, Int.reduceToNat, i_chunk_Cut_1, h, ea]
  | cons a acc =>
    have hne : a :: acc ≠ [] := by simp
    rw [inC_ne hne, outC_ne hne, kC_ne hne]
    generalize a :: acc = l at *
    refine Ev_run t_chunk_Cut_1 rfl rfl ?_
    simp (maxSteps := 1000000) (disch := first | omega | (simp only [lens, List.length_map]; omega)) only [go_sem, ↓reduceIte, Nat.reduceSub, Nat.reduceAdd, Nat.reduceMul, Nat.reduceLeDiff, Nat.reduceLT, Nat.reduceEqDiff, Nat.reduceBEq, Int.reduceLE, Int.reduceLT, Int.reduceEq, Int.reduceNeg, Int.reduceAdd, Int.reduceSub, Int.reduceMul, Int.reduceToNat, i_chunk_Cut_1, h, ea]
theorem cut1_0 (w : Int) (hw : 1 ≤ w ∧ w ≤ 32) (t l r : T) (h : t.kids = [l, r]) (hs : t.size ≤ 1048576) (hc : t.chk = 0) (d : List UInt8) (hd : t.dig w = some d) (acc : List T) (ha : acc.length ≤ 2097152) : Ev tab G0 n_chunk_Cut_1 [avT t, i64 0, .ptr 0 0, .ptr 1 0, .ptr (kC acc) 0] (inC w acc) = some ([avT (headT w 0 t)], outC w acc (acc ++ partT 0 t)) := by
  have h1 := tree_Digest_ev w hw t hs
  have ea : avT t = .agg [i64 t.kind, .sl true (eB t.key), .sl true (eB t.value), .sl true (eB t.digest), .sl true (eT [l, r])] := by rw [← h]
  rw [if_pos hc, hd] at h1
  rw [headT_0 h, partT_0 h, hd]
  simp only [dgV, dgE, avT_lf, eB_n0] at h1 ⊢
  rw [ea] at h1
  have hcell : [C.sc (.int .i64 t.kind), .sl (eB t.key), .sl (eB t.value), .sl (eB t.digest), .sl (eT [l, r])] = t.cells := by rw [cells_eq, h]
  have hne2 : acc ++ [t] ≠ [] := by simp
  have el := eT_last (l := acc) (t := t)
  have ea2 := eT_app (a := acc) (b := [.no])
  have en : (acc ++ [T.no]).length = acc.length + 1 := by simp only [List.length_append, List.length_cons, List.length_nil]
  have en2 : (acc ++ [t]).length = acc.length + 1 := by simp only [List.length_append, List.length_cons, List.length_nil]
  cases acc with
  | nil =>
    rw [outC_new hne2]
    simp only [List.nil_append, List.length_nil, Nat.zero_add] at el ea2 en en2 ⊢
    rw [inC_nil, kC_nil]
    refine Ev_run t_chunk_Cut_1 rfl rfl ?_
    simp (maxSteps := 1000000) (disch := first | omega | (simp only [lens, List.length_map]; omega)) only [go_sem, ↓reduceIte, Nat.reduceSub, Nat.reduceAdd, Nat.reduceMul, Nat.reduceLeDiff, Nat.reduceLT, Nat.reduceEqDiff, Nat.reduceBEq, Int.reduceLE, Int.reduceLT, Int.reduceEq, Int.reduceNeg, Int.reduceAdd, Int.reduceSub, Int.reduceMul, Int.reduceToNat, i_chunk_Cut_1, h, ea, h1, cells_no, eT_one, eT_no, cells_drop5, hcell, eT_emp, el, ea2, en, eT_nil, eB_nil]
  | cons a acc =>
    have hne : a :: acc ≠ [] := by simp
    rw [inC_ne hne, outC_ne hne, kC_ne hne]
    generalize a :: acc = m at *
    rw [en2]
    generalize m ++ [t] = m2 at *
    generalize m ++ [T.no] = m3 at *
    refine Ev_run t_chunk_Cut_1 rfl rfl ?_
    simp (maxSteps := 1000000) (disch := first | omega | (simp only [lens, List.length_map]; omega)) only [go_sem, ↓reduceIte, Nat.reduceSub, Nat.reduceAdd, Nat.reduceMul, Nat.reduceLeDiff, Nat.reduceLT, Nat.reduceEqDiff, Nat.reduceBEq, Int.reduceLE, Int.reduceLT, Int.reduceEq, Int.reduceNeg, Int.reduceAdd, Int.reduceSub, Int.reduceMul, Int.reduceToNat, i_chunk_Cut_1, h, ea, h1, cells_no, eT_one, eT_no, cells_drop5, hcell, eT_emp, el, ea2, en, eT_nil, eB_nil]
theorem lt_cut1 : (n_chunk_Cut_1 < 1000000) = True := eq_true (by decide)
theorem cut1_s (w : Int) (t l r : T) (h : t.kids = [l, r]) (n : Nat) (hn : n < 64) (acc : List T)
    (ha : (acc ++ partT n l ++ partT n r).length ≤ 2097152)
    (h1 : Ev tab G0 n_chunk_Cut_1 [avT l, i64 n, .ptr 0 0, .ptr 1 0, .ptr (kC acc) 0] (inC w acc) = some ([avT (headT w n l)], outC w acc (acc ++ partT n l)))
    (h2 : Ev tab G0 n_chunk_Cut_1 [avT r, i64 n, .ptr 0 0, .ptr 1 0, .ptr (kC (acc ++ partT n l)) 0] (inC w (acc ++ partT n l)) = some ([avT (headT w n r)], outC w (acc ++ partT n l) (acc ++ partT n l ++ partT n r))) :
    Ev tab G0 n_chunk_Cut_1 [avT t, i64 (n + 1 : Nat), .ptr 0 0, .ptr 1 0, .ptr (kC acc) 0] (inC w acc) = some ([avT (headT w (n + 1) t)], outC w acc (acc ++ partT (n + 1) t)) := by
  have ea : avT t = .agg [i64 t.kind, .sl true (eB t.key), .sl true (eB t.value), .sl true (eB t.digest), .sl true (eT [l, r])] := by rw [← h]
  rw [headT_s h, partT_s h, ← List.append_assoc]
  have en : (n : Int) + 1 - 1 = n := by omega
  have hn0 : ¬ ((n : Int) + 1 = 0) := by omega
  generalize headT w n l = u1 at *
  generalize headT w n r = u2 at *
  have hl1 : (acc ++ partT n l).length ≤ 2097152 := by rw [List.length_append] at ha; omega
  simp only [avT_2, eT_2]
  by_cases hx : acc = []
  · subst hx
    simp only [List.nil_append] at *
    rw [inC_nil, kC_nil] at h1 ⊢
    by_cases hy : partT n l = []
    · rw [hy] at h1 h2 ⊢
      simp only [List.nil_append] at h2 ⊢
      rw [outC_nil] at h1
      rw [inC_nil, kC_nil] at h2
      by_cases hz : partT n r = []
      · rw [hz] at h2 ⊢
        rw [outC_nil] at h2 ⊢
        refine Ev_run t_chunk_Cut_1 rfl rfl ?_
        simp (maxSteps := 1000000) (disch := first | omega | (simp only [lens, List.length_map]; omega)) only [go_sem, ↓reduceIte, Nat.reduceSub, Nat.reduceAdd, Nat.reduceMul, Nat.reduceLeDiff, Nat.reduceLT, Nat.reduceEqDiff, Nat.reduceBEq, Int.reduceLE, Int.reduceLT, Int.reduceEq, Int.reduceNeg, Int.reduceAdd, Int.reduceSub, Int.reduceMul, Int.reduceToNat, i_chunk_Cut_1, h, ea, en, hn0, h1, h2, lt_cut1, eB_n0]
      · rw [outC_new hz] at h2 ⊢
        generalize partT n r = m at *
        refine Ev_run t_chunk_Cut_1 rfl rfl ?_
        simp (maxSteps := 1000000) (disch := first | omega | (simp only [lens, List.length_map]; omega)) only [go_sem, ↓reduceIte, Nat.reduceSub, Nat.reduceAdd, Nat.reduceMul, Nat.reduceLeDiff, Nat.reduceLT, Nat.reduceEqDiff, Nat.reduceBEq, Int.reduceLE, Int.reduceLT, Int.reduceEq, Int.reduceNeg, Int.reduceAdd, Int.reduceSub, Int.reduceMul, Int.reduceToNat, i_chunk_Cut_1, h, ea, en, hn0, h1, h2, lt_cut1, eB_n0]
    · have hz : partT n l ++ partT n r ≠ [] := fun x => hy (List.append_eq_nil_iff.1 x).1
      rw [outC_new hy] at h1
      rw [inC_ne hy, kC_ne hy, outC_ne hy] at h2
      rw [outC_new hz]
      generalize partT n l ++ partT n r = m2 at *
      generalize partT n l = m1 at *
      refine Ev_run t_chunk_Cut_1 rfl rfl ?_
      simp (maxSteps := 1000000) (disch := first | omega | (simp only [lens, List.length_map]; omega)) only [go_sem, ↓reduceIte, Nat.reduceSub, Nat.reduceAdd, Nat.reduceMul, Nat.reduceLeDiff, Nat.reduceLT, Nat.reduceEqDiff, Nat.reduceBEq, Int.reduceLE, Int.reduceLT, Int.reduceEq, Int.reduceNeg, Int.reduceAdd, Int.reduceSub, Int.reduceMul, Int.reduceToNat, i_chunk_Cut_1, h, ea, en, hn0, h1, h2, lt_cut1, eB_n0]
  · have hy : acc ++ partT n l ≠ [] := fun x => hx (List.append_eq_nil_iff.1 x).1
    rw [inC_ne hx, kC_ne hx] at h1 ⊢
    rw [outC_ne hx] at h1 ⊢
    rw [inC_ne hy, kC_ne hy, outC_ne hy] at h2
    generalize acc ++ partT n l ++ partT n r = m2 at *
    generalize acc ++ partT n l = m1 at *
    refine Ev_run t_chunk_Cut_1 rfl rfl ?_
    simp (maxSteps := 1000000) (disch := first | omega | (simp only [lens, List.length_map]; omega)) only [go_sem, ↓reduceIte, Nat.reduceSub, Nat.reduceAdd, Nat.reduceMul, Nat.reduceLeDiff, Nat.reduceLT, Nat.reduceEqDiff, Nat.reduceBEq, Int.reduceLE, Int.reduceLT, Int.reduceEq, Int.reduceNeg, Int.reduceAdd, Int.reduceSub, Int.reduceMul, Int.reduceToNat, i_chunk_Cut_1, h, ea, en, hn0, h1, h2, lt_cut1, eB_n0]
theorem cut1_ev (w : Int) (hw : 1 ≤ w ∧ w ≤ 32) : ∀ t : T, t.formed = true → ∀ (n : Nat) (d : List UInt8) (acc : List T), n ≤ 64 → t.dig w = some d → t.deep 64 = false → t.size ≤ 1048576 → acc.length + t.size ≤ 2097152 → Ev tab G0 n_chunk_Cut_1 [avT t, i64 n, .ptr 0 0, .ptr 1 0, .ptr (kC acc) 0] (inC w acc) = some ([avT (headT w n t)], outC w acc (acc ++ partT n t)) := F_ind
  (fun t hf h n d acc hn hd hdp hs ha => cut1_nil w t h n hn acc (by omega))
  fun t l r hf h hl hr il ir n d acc hn hd hdp hs ha => by
    have hz := size_two h
    cases n with
    | zero => exact cut1_0 w hw t l r h hs (chk_good hf hdp) d hd acc (by omega)
    | succ n =>
      obtain ⟨⟨x, ex⟩, y, ey⟩ := dig_kids hw hf h hd
      have hdk := deep_kids hl hr h hdp
      have p1 := partT_len l hl n
      have p2 := partT_len r hr n
      exact cut1_s w t l r h n (by omega) acc (by simp only [List.length_append]; omega) (il n x acc (by omega) ex hdk.1 (by omega) (by omega)) (ir n y (acc ++ partT n l) (by omega) ey hdk.2 (by omega) (by rw [List.length_append]; omega))
theorem chunk_width_ev (w : Int) (h : -9223372036854775808 ≤ w ∧ w < 9223372036854775808) : Ev tab G0 n_chunk_width [i64 w] [] = some ([bo (decide (1 ≤ w ∧ w ≤ 32))], []) := by
  refine Ev_run t_chunk_width rfl rfl ?_
  simp (maxSteps := 1000000) (disch := first | omega | (simp only [lens, List.length_map]; omega)) only [go_sem, ↓reduceIte, Nat.reduceSub, Nat.reduceAdd, Nat.reduceMul, Nat.reduceLeDiff, Nat.reduceLT, Nat.reduceEqDiff, Nat.reduceBEq, Int.reduceLE, Int.reduceLT, Int.reduceEq, Int.reduceNeg, Int.reduceAdd, Int.reduceSub, Int.reduceMul, Int.reduceToNat, i_chunk_width]
  (repeat' split) <;> first | rfl | (exfalso; omega) | (simp_all; done) | (simp_all; omega)
/-- What is amiss with what is to be cut. -/
def cutC (w : Int) (t : T) (n : Int) : Int := if n < 0 ∨ 64 < n ∨ ¬ (1 ≤ w ∧ w ≤ 32) then 1 else if ¬ t.chk = 0 then t.chk else if (t.dig w).isSome = false ∨ t.full = false then 3 else 0
theorem chunk_Cut_good (w : Int) (t : T) (n : Nat) (hs : t.size ≤ 1048576) (h : cutC w t n = 0) : Ev tab G0 n_chunk_Cut [i64 w, avT t, i64 n] [] = some ([avT (headT w n t), .sl true (eT (partT n t)), .s .nilIface], []) := by
  unfold cutC at h
  split at h
  · cases h
  · rename_i h0
    split at h
    · exact absurd h (by assumption)
    · rename_i hc
      split at h
      · cases h
      · rename_i hx
        have hw : 1 ≤ w ∧ w ≤ 32 := by omega
        have hc : t.chk = 0 := by omega
        have h1 := chunk_width_ev w (by omega)
        rw [decide_eq_true hw] at h1
        have h2 := tree_Digest_ev w hw t hs
        have h3 := tree_Full_ev t hs
        rw [if_pos hc] at h2
        rw [decide_eq_true hc, Bool.true_and] at h3
        cases hd : t.dig w with
        | none => rw [hd] at hx; simp at hx
        | some d =>
          have hfl : t.full = true := by
            cases e : t.full
            · rw [e] at hx; simp at hx
            · rfl
          rw [hd] at h2
          rw [hfl] at h3
          simp only [dgV, dgE] at h2
          have hf := chk_formed hc
          have h4 := cut1_ev w hw t hf n d [] (by omega) hd (chk_deep hc) hs (by simp; omega)
          have hp := partT_len t hf n
          rw [List.nil_append, inC_nil, kC_nil] at h4
          have hn1 : ¬ ((n : Int) < 0) := by omega
          have hn2 : ¬ ((64 : Int) < n) := by omega
          generalize headT w n t = u at *
          by_cases hp0 : partT n t = []
          · rw [hp0, outC_nil] at h4
            rw [hp0, eT_nil]
            refine Ev_run t_chunk_Cut rfl rfl ?_
            simp (maxSteps := 1000000) (disch := first | omega | (simp only [lens, List.length_map]; omega)) only [go_sem, ↓reduceIte, Nat.reduceSub, Nat.reduceAdd, Nat.reduceMul, Nat.reduceLeDiff, Nat.reduceLT, Nat.reduceEqDiff, Nat.reduceBEq, Int.reduceLE, Int.reduceLT, Int.reduceEq, Int.reduceNeg, Int.reduceAdd, Int.reduceSub, Int.reduceMul, Int.reduceToNat, i_chunk_Cut, h1, h2, h3, h4, hn1, hn2, lt_cut1]
          · rw [outC_new hp0] at h4
            generalize partT n t = m at *
            refine Ev_run t_chunk_Cut rfl rfl ?_
            simp (maxSteps := 1000000) (disch := first | omega | (simp only [lens, List.length_map]; omega)) only [go_sem, ↓reduceIte, Nat.reduceSub, Nat.reduceAdd, Nat.reduceMul, Nat.reduceLeDiff, Nat.reduceLT, Nat.reduceEqDiff, Nat.reduceBEq, Int.reduceLE, Int.reduceLT, Int.reduceEq, Int.reduceNeg, Int.reduceAdd, Int.reduceSub, Int.reduceMul, Int.reduceToNat, i_chunk_Cut, h1, h2, h3, h4, hn1, hn2, lt_cut1]
end Go.Proofs.YtdngljdbgepaiaaGreatDoor
