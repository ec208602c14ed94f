/-
  Whether a tree is balanced.
-/
import Derived.Test.YtfihodpdjpcpfaaLAvl6
set_option linter.unusedSimpArgs false
set_option linter.unusedVariables false
set_option maxRecDepth 200000
set_option maxHeartbeats 4000000
namespace Go.Proofs.Ytfihodpdjpcpfaa
open Go.Ev

def srtT : List T → Bool
  | a :: b :: l => decide (cmp a.key b.key < 0) && srtT (b :: l)
  | _ => true
def evn (u : T) : Bool := decide ((u.kids.getD 0 .no).depth - (u.kids.getD 1 .no).depth ≤ 1) && decide (-1 ≤ (u.kids.getD 0 .no).depth - (u.kids.getD 1 .no).depth)
def T.isA (t : T) : Bool := decide (t.chk = 0) && t.full && (srtT t.list && t.bal)
theorem list_mem : ∀ t : T, t.formed = true → ∀ u ∈ t.list, u.formed = true ∧ u.size ≤ t.size ∧ ∃ l r, u.kids = [l, r] ∧ l.formed = true ∧ r.formed = true := F_ind (fun t _ h u hu => by rw [list_nil h] at hu; simp at hu)
  fun t l r hf h hl hr h1 h2 u hu => by
    have hs := size_two h
    rw [list_two h] at hu
    rcases List.mem_append.1 hu with hu | hu
    · obtain ⟨a, b, c⟩ := h1 u hu
      exact ⟨a, by omega, c⟩
    · rcases List.mem_cons.1 hu with rfl | hu
      · exact ⟨hf, Nat.le_refl _, l, r, h, hl, hr⟩
      · obtain ⟨a, b, c⟩ := h2 u hu
        exact ⟨a, by omega, c⟩
theorem bal_all : ∀ t : T, t.formed = true → t.bal = t.list.all evn := F_ind (fun t _ h => by rw [list_nil h, bal_nil h]; rfl)
  fun t l r hf h hl hr h1 h2 => by
    rw [list_two h, bal_two h, h1, h2, List.all_append, List.all_cons]
    have e : evn t = (decide (l.depth - r.depth ≤ 1) && decide (r.depth - l.depth ≤ 1)) := by
      unfold evn
      rw [h]
      simp only [List.getD_cons_zero, List.getD_cons_succ]
      congr 1
      exact decide_eq_decide.mpr (by omega)
    rw [e]
    cases l.list.all evn <;> cases r.list.all evn <;> simp
theorem is_loop (t : T) (l : List T) (hl : l.length ≤ 1048576) : ∀ (n i : Nat), n + i = l.length → 1 ≤ i → L_avl_Is_0 (s_avl_Is_K0 (.ptr 0 0) (.sl true (eT l)) (i64 i) [some (oT t)]) = if srtT (l.drop (i - 1)) = true then some (.exit 0, s_avl_Is_J0 (.ptr 0 0) [some (oT t)]) else some (.ret, s_avl_Is_R (bo false) [none])
  | 0, i, h, h1 => by
    have e : srtT (l.drop (i - 1)) = true := by
      rw [drop_step (d := .no) (by omega), show i - 1 + 1 = i by omega, List.drop_of_length_le (by omega)]
      rfl
    rw [if_pos e, L_avl_Is_0_eq]
    simp (maxSteps := 1000000) (disch := first | omega | (simp only [List.length_cons, List.length_nil, List.length_append, List.length_map, List.length_take, List.length_drop]; omega)) only [go_sem, ↓reduceIte, Nat.reduceSub, Nat.reduceAdd, Nat.reduceMul, Nat.reduceLeDiff, Nat.reduceLT, Nat.reduceEqDiff, Nat.reduceBEq, Int.reduceLE, Int.reduceLT, Int.reduceEq, Int.reduceNeg, Int.reduceAdd, Int.reduceSub, Int.reduceMul, Int.reduceToNat, i_avl_Is_b0]
  | n + 1, i, h, h1 => by
    have ih := is_loop t l hl n (i + 1) (by omega) (by omega)
    have hc := bytes_Compare_ev (l.getD (i - 1) .no).key (l.getD i .no).key
    have e : srtT (l.drop (i - 1)) = (decide (cmp (l.getD (i - 1) .no).key (l.getD i .no).key < 0) && srtT (l.drop i)) := by
      rw [drop_step (d := .no) (i := i - 1) (by omega), show i - 1 + 1 = i by omega, drop_step (d := .no) (i := i) (by omega)]
      rfl
    have e1 : ((i : Int) - 1).toNat = i - 1 := by omega
    rw [show i + 1 - 1 = i by omega] at ih
    rw [e, L_avl_Is_0_eq]
    generalize hd1 : l.getD (i - 1) .no = x at *
    generalize hd2 : l.getD i .no = y at *
    try simp (maxSteps := 1000000) (disch := first | omega | (simp only [List.length_cons, List.length_nil, List.length_append, List.length_map, List.length_take, List.length_drop]; omega)) only [go_sem, ↓reduceIte, Nat.reduceSub, Nat.reduceAdd, Nat.reduceMul, Nat.reduceLeDiff, Nat.reduceLT, Nat.reduceEqDiff, Nat.reduceBEq, Int.reduceLE, Int.reduceLT, Int.reduceEq, Int.reduceNeg, Int.reduceAdd, Int.reduceSub, Int.reduceMul, Int.reduceToNat] at ih
    by_cases c : cmp x.key y.key < 0
    · rw [decide_eq_true c, Bool.true_and, ← ih]
      simp (maxSteps := 1000000) (disch := first | omega | (simp only [List.length_cons, List.length_nil, List.length_append, List.length_map, List.length_take, List.length_drop]; omega)) only [go_sem, ↓reduceIte, Nat.reduceSub, Nat.reduceAdd, Nat.reduceMul, Nat.reduceLeDiff, Nat.reduceLT, Nat.reduceEqDiff, Nat.reduceBEq, Int.reduceLE, Int.reduceLT, Int.reduceEq, Int.reduceNeg, Int.reduceAdd, Int.reduceSub, Int.reduceMul, Int.reduceToNat, i_avl_Is_b0, e1, hd1, hd2, hc]
    · rw [decide_eq_false c, Bool.false_and, if_neg (by simp)]
      simp (maxSteps := 1000000) (disch := first | omega | (simp only [List.length_cons, List.length_nil, List.length_append, List.length_map, List.length_take, List.length_drop]; omega)) only [go_sem, ↓reduceIte, Nat.reduceSub, Nat.reduceAdd, Nat.reduceMul, Nat.reduceLeDiff, Nat.reduceLT, Nat.reduceEqDiff, Nat.reduceBEq, Int.reduceLE, Int.reduceLT, Int.reduceEq, Int.reduceNeg, Int.reduceAdd, Int.reduceSub, Int.reduceMul, Int.reduceToNat, i_avl_Is_b0, e1, hd1, hd2, hc]
theorem avl_Is_ev (t : T) (hs : t.size ≤ 1048576) : Ev tab G0 n_avl_Is [avT t] [] = some ([bo t.isA], []) := by
  have h1 := tree_Full_ev t hs
  unfold T.isA
  cases hf : (decide (t.chk = 0) && t.full)
  · rw [hf] at h1
    rw [Bool.false_and]
    refine Ev_run t_avl_Is rfl rfl ?_
    simp (maxSteps := 1000000) (disch := first | omega | (simp only [List.length_cons, List.length_nil, List.length_append, List.length_map, List.length_take, List.length_drop]; omega)) only [go_sem, ↓reduceIte, Nat.reduceSub, Nat.reduceAdd, Nat.reduceMul, Nat.reduceLeDiff, Nat.reduceLT, Nat.reduceEqDiff, Nat.reduceBEq, Int.reduceLE, Int.reduceLT, Int.reduceEq, Int.reduceNeg, Int.reduceAdd, Int.reduceSub, Int.reduceMul, Int.reduceToNat, i_avl_Is, h1]
  · rw [hf] at h1
    simp only [Bool.and_eq_true, decide_eq_true_eq] at hf
    have hfm := chk_formed hf.1
    have h2 := tree_List_ev t hs hf.1
    have hls := list_size t hfm
    have h4 := avl_even_ev t hfm hs
    have e1 : ((1 : Nat) : Int) = 1 := rfl
    rw [Bool.true_and]
    by_cases hl : t.list.length = 0
    · have hl0 := List.eq_nil_of_length_eq_zero hl
      have h3 : L_avl_Is_0 (s_avl_Is_K0 (.ptr 0 0) (.sl true (eT t.list)) (i64 1) [some (oT t)]) = some (.exit 0, s_avl_Is_J0 (.ptr 0 0) [some (oT t)]) := by
        rw [L_avl_Is_0_eq]
        simp (maxSteps := 1000000) (disch := first | omega | (simp only [List.length_cons, List.length_nil, List.length_append, List.length_map, List.length_take, List.length_drop]; omega)) only [go_sem, ↓reduceIte, Nat.reduceSub, Nat.reduceAdd, Nat.reduceMul, Nat.reduceLeDiff, Nat.reduceLT, Nat.reduceEqDiff, Nat.reduceBEq, Int.reduceLE, Int.reduceLT, Int.reduceEq, Int.reduceNeg, Int.reduceAdd, Int.reduceSub, Int.reduceMul, Int.reduceToNat, i_avl_Is_b0, hl0]
      have es : srtT t.list = true := by rw [hl0]; rfl
      rw [es, Bool.true_and]
      refine Ev_run t_avl_Is rfl rfl ?_
      simp (maxSteps := 1000000) (disch := first | omega | (simp only [List.length_cons, List.length_nil, List.length_append, List.length_map, List.length_take, List.length_drop]; omega)) only [go_sem, ↓reduceIte, Nat.reduceSub, Nat.reduceAdd, Nat.reduceMul, Nat.reduceLeDiff, Nat.reduceLT, Nat.reduceEqDiff, Nat.reduceBEq, Int.reduceLE, Int.reduceLT, Int.reduceEq, Int.reduceNeg, Int.reduceAdd, Int.reduceSub, Int.reduceMul, Int.reduceToNat, i_avl_Is, h1, h2, h3, h4]
    · have h3 := is_loop t t.list (by omega) (t.list.length - 1) 1 (by omega) (by omega)
      rw [show 1 - 1 = 0 from rfl, List.drop_zero, e1] at h3
      cases hsr : srtT t.list
      · rw [hsr, if_neg (by simp)] at h3
        rw [Bool.false_and]
        refine Ev_run t_avl_Is rfl rfl ?_
        simp (maxSteps := 1000000) (disch := first | omega | (simp only [List.length_cons, List.length_nil, List.length_append, List.length_map, List.length_take, List.length_drop]; omega)) only [go_sem, ↓reduceIte, Nat.reduceSub, Nat.reduceAdd, Nat.reduceMul, Nat.reduceLeDiff, Nat.reduceLT, Nat.reduceEqDiff, Nat.reduceBEq, Int.reduceLE, Int.reduceLT, Int.reduceEq, Int.reduceNeg, Int.reduceAdd, Int.reduceSub, Int.reduceMul, Int.reduceToNat, i_avl_Is, h1, h2, h3, h4]
      · rw [hsr, if_pos rfl] at h3
        rw [Bool.true_and]
        refine Ev_run t_avl_Is rfl rfl ?_
        simp (maxSteps := 1000000) (disch := first | omega | (simp only [List.length_cons, List.length_nil, List.length_append, List.length_map, List.length_take, List.length_drop]; omega)) only [go_sem, ↓reduceIte, Nat.reduceSub, Nat.reduceAdd, Nat.reduceMul, Nat.reduceLeDiff, Nat.reduceLT, Nat.reduceEqDiff, Nat.reduceBEq, Int.reduceLE, Int.reduceLT, Int.reduceEq, Int.reduceNeg, Int.reduceAdd, Int.reduceSub, Int.reduceMul, Int.reduceToNat, i_avl_Is, h1, h2, h3, h4]
/-! ### Balanced trees, as binary trees -/
theorem srtT_srt : ∀ l : List T, srtT l = true ↔ srtP (l.map fun t => (t.key, t.value))
  | [] => by simp [srtT, srtP]
  | [a] => by simp [srtT, srtP]
  | a :: b :: l => by
    have ih := srtT_srt (b :: l)
    simp only [srtT, Bool.and_eq_true, decide_eq_true_eq, ih]
    unfold srtP
    simp only [List.map_cons, List.pairwise_cons, List.mem_cons]
    constructor
    · rintro ⟨h1, h2, h3⟩
      refine ⟨fun x hx => ?_, h2, h3⟩
      rcases hx with rfl | hx
      · exact h1
      · have h4 : cmp b.key x.1 < 0 := h2 x hx
        have := cmp_trans a.key b.key x.1 (by omega) (by omega)
        show cmp a.key x.1 < 0
        omega
    · rintro ⟨h1, h2, h3⟩
      exact ⟨h1 _ (.inl rfl), h2, h3⟩
/-- A balanced tree. -/
structure B.good (b : B) : Prop where
  ok : b.ok = true
  bal : b.bal = true
  srt : srtP b.list
theorem of_isA (t : T) (h : t.isA = true) : ∃ b : B, b.t = t ∧ b.good ∧ b.depth ≤ 64 := by
  unfold T.isA at h
  simp only [Bool.and_eq_true, decide_eq_true_eq] at h
  obtain ⟨⟨h1, h2⟩, h3, h4⟩ := h
  obtain ⟨b, rfl, ho⟩ := of_full t (chk_formed h1) h2
  refine ⟨b, rfl, ⟨ho, ?_, ?_⟩, ?_⟩
  · rwa [Bt_bal] at h4
  · rw [srtT_srt, Bt_list] at h3
    exact h3
  · have hd := Bt_deep b 64 (by omega)
    unfold T.chk at h1
    split at h1
    · cases h1
    · rename_i hn
      rw [hd] at hn
      simp only [decide_eq_true_eq] at hn
      omega
theorem isA_of (b : B) (h : b.good) (hd : b.depth ≤ 64) : b.t.isA = true := by
  unfold T.isA
  rw [Bt_chk b h.ok hd, Bt_full, Bt_bal, h.bal, (srtT_srt b.t.list).2 (by rw [Bt_list]; exact h.srt)]
  rfl
theorem put_good (b : B) (k v : List UInt8) (h : b.good) (hk : k.length ≤ 80) (hv : v.length ≤ 1024) : (b.put k v).good := ⟨put_ok b k v h.ok hk hv, (put_bal b k v h.bal).1, put_srt b k v h.srt⟩
theorem take_good (b : B) (k : List UInt8) (h : b.good) : (b.take k).good := ⟨take_ok b k h.srt h.ok, (take_bal b k h.bal).1, take_srt b k h.srt⟩
theorem n_good : B.n.good := ⟨rfl, rfl, by simp [B.list, srtP]⟩
/-! ### Asked; what is there -/
/-- What is amiss with what is asked. -/
def askA (t : T) (k v : List UInt8) : Int := if t.isA = true then (if 80 < k.length ∨ 1024 < v.length then 1 else 0) else 3
end Go.Proofs.Ytfihodpdjpcpfaa
