/-
  A writer's functions.
-/
import Derived.Test.YtdgfbfkjdflabaaLWr
import Derived.KernelRfl
import Derived.Test.YtdgfbfkjdflabaaIr
set_option linter.unusedSimpArgs false
set_option linter.unusedVariables false
set_option maxRecDepth 200000
set_option maxHeartbeats 4000000
namespace Go.Proofs.Ytdgfbfkjdflabaa
open Go.Ev
theorem cnts_loopB (l : List Int) (hl : l.length ≤ 1048576) : ∀ (n i : Nat) (w : Wr), n + i = l.length → w.b ≠ [] → w.b.length + 9 * n ≤ 1073741824 → L_entry_writer_counts_0 (s_entry_writer_counts_K0 (.ptr 2 0) (.sl true (eI .i64 l)) (i64 l.length) (i64 i) [none, some (rowB2 w.b), some (oWr (.row 1 w.b.length) w.bad)]) = some ((if (l.drop i).any badN = true then .ret else .exit 0), s_entry_writer_counts_J0 [none, some (rowB2 (w.cnts (l.drop i)).b), some (oWr (.row 1 (w.cnts (l.drop i)).b.length) (w.cnts (l.drop i)).bad)])
 | 0, i, w, h, hne, hb => by
  rw [List.drop_of_length_le (by omega), L_entry_writer_counts_0_eq]
  simp only [List.any_nil, Wr.cnts, Bool.false_eq_true, if_false]
  simp (disch := omega) only [go_sem, seval, i_entry_writer_counts_b0]
 | n + 1, i, w, h, hne, hb => by
  rw [drop_step (d := 0) (by omega), L_entry_writer_counts_0_eq, List.any_cons]
  by_cases c1 : l.getD i 0 < 0
  ·rw [cnts_bad (badN_lo c1), badN_lo c1, Bool.true_or, if_pos rfl]
   generalize hd : l.getD i 0 = x at *
   simp (disch := omega) only [go_sem, seval, i_entry_writer_counts_b0, hd, c1]
  ·by_cases c2 : 1152921504606846976 < l.getD i 0
   ·rw [cnts_bad (badN_hi c2), badN_hi c2, Bool.true_or, if_pos rfl]
    generalize hd : l.getD i 0 = x at *
    simp (disch := omega) only [go_sem, seval, i_entry_writer_counts_b0, hd, c1, c2]
   ·have hk := badN_ok (n := l.getD i 0) (by omega)
    have hnl := num_len (l.getD i 0)
    have hne2 : w.b ++ num (l.getD i 0) ≠ [] := fun x => hne (List.append_eq_nil_iff.1 x).1
    have ih := cnts_loopB l hl n (i + 1) ⟨w.b ++ num (l.getD i 0), w.bad⟩ (by omega) hne2 (by simp only [List.length_append]; omega)
    have h1 := coder_Number_ev (l.getD i 0) (by omega)
    rw [cnts_ok hk, hk, Bool.false_or]
    have hla : (w.b ++ num (l.getD i 0)).length = w.b.length + (num (l.getD i 0)).length := List.length_append
    simp only [hla] at ih
    generalize Wr.cnts ⟨w.b ++ num (l.getD i 0), w.bad⟩ (l.drop (i + 1)) = w2 at *
    generalize hd : l.getD i 0 = x at *
    generalize hnx : num x = nx at *
    try simp (disch := omega) only [go_sem, seval] at ih
    simp (disch := omega) only [go_sem, seval, i_entry_writer_counts_b0, hd, c1, c2, h1, ih]
theorem cnts_nil_loop (l : List Int) (hl : l.length ≤ 1048576) (bad : Bool) : L_entry_writer_counts_0 (s_entry_writer_counts_K0 (.ptr 2 0) (.sl true (eI .i64 l)) (i64 l.length) (i64 0) [none, none, some (oWr .nilsl bad)]) = match l with
  | [] => some (.exit 0, s_entry_writer_counts_J0 [none, none, some (oWr .nilsl bad)])
  | n :: r => if badN n = true then some (.ret, s_entry_writer_counts_J0 [none, none, some (oWr .nilsl true)]) else some ((if r.any badN = true then .ret else .exit 0), s_entry_writer_counts_J0 [none, some (rowB2 (Wr.cnts ⟨num n, bad⟩ r).b), some (oWr (.row 1 (Wr.cnts ⟨num n, bad⟩ r).b.length) (Wr.cnts ⟨num n, bad⟩ r).bad)]) := by
 cases l with
 | nil =>
  rw [L_entry_writer_counts_0_eq]
  simp only [List.length_nil]
  have en : eI .i64 [] = [] := rfl
  simp (disch := omega) only [go_sem, seval, i_entry_writer_counts_b0, en]
 | cons x r =>
  rw [L_entry_writer_counts_0_eq]
  simp only
  have hd : (x :: r).getD 0 0 = x := rfl
  have hlr : (x :: r).length = r.length + 1 := rfl
  by_cases c1 : x < 0
  ·rw [badN_lo c1, if_pos rfl]
   generalize x :: r = l at *
   simp (disch := omega) only [go_sem, seval, i_entry_writer_counts_b0, hd, c1]
  ·by_cases c2 : 1152921504606846976 < x
   ·rw [badN_hi c2, if_pos rfl]
    generalize x :: r = l at *
    simp (disch := omega) only [go_sem, seval, i_entry_writer_counts_b0, hd, c1, c2]
   ·have hk := badN_ok (n := x) (by omega)
    have hnl := num_len x
    have h1 := coder_Number_ev x (by omega)
    have ih := cnts_loopB (x :: r) hl r.length 1 ⟨num x, bad⟩ hlr.symm (num_ne x) (by simp only; omega)
    rw [show (x :: r).drop 1 = r from rfl] at ih
    have he := num_emp x
    have e1 : ((1 : Nat) : Int) = 1 := rfl
    rw [e1] at ih
    rw [hk, if_neg (by simp)]
    simp only at ih
    generalize Wr.cnts ⟨num x, bad⟩ r = w2 at *
    generalize num x = nx at *
    generalize x :: r = l at *
    try simp (disch := omega) only [go_sem, seval] at ih
    simp (disch := omega) only [go_sem, seval, i_entry_writer_counts_b0, hd, c1, c2, h1, he, ih]
theorem entry_counts_ev (w : Wr) (l : List Int) (hl : l.length ≤ 1048576) (hb : w.b.length + 9 * l.length ≤ 1073741824) : Ev tab G0 n_entry_writer_counts [.ptr 0 0, .sl true (eI .i64 l)] (inW w) = some ([], inW (w.cnts l)) := by
 by_cases hw : w.b = []
 ·have h := cnts_nil_loop l hl w.bad
  rw [inW_nil hw]
  obtain ⟨b, bad⟩ := w
  simp only at hw h
  subst hw
  cases l with
  | nil =>
   simp only at h
   simp only [Wr.cnts, List.length_nil] at h ⊢
   rw [inW_nil rfl]
   have en : eI .i64 [] = [] := rfl
   rw [en] at h ⊢
   have e0 : ((0 : Nat) : Int) = 0 := rfl
   rw [e0] at h
   refine Ev_run t_entry_writer_counts rfl rfl ?_
   simp (disch := omega) only [go_sem, seval, i_entry_writer_counts, h]
  | cons n r =>
   simp only at h
   cases hn : badN n
   ·rw [hn, if_neg (by simp)] at h
    rw [cnts_ok hn]
    simp only [List.nil_append]
    rw [inW_ne (cnts_ne ⟨num n, bad⟩ (num_ne n) r)]
    generalize Wr.cnts ⟨num n, bad⟩ r = w2 at *
    generalize n :: r = l at *
    refine Ev_run t_entry_writer_counts rfl rfl ?_
    cases ha : r.any badN
    ·rw [ha, if_neg (by simp)] at h
     simp (disch := omega) only [go_sem, seval, i_entry_writer_counts, h]
    ·rw [ha, if_pos rfl] at h
     simp (disch := omega) only [go_sem, seval, i_entry_writer_counts, h]
   ·rw [hn, if_pos rfl] at h
    rw [cnts_bad hn, inW_nil rfl]
    generalize n :: r = l at *
    refine Ev_run t_entry_writer_counts rfl rfl ?_
    simp (disch := omega) only [go_sem, seval, i_entry_writer_counts, h]
 ·have h := cnts_loopC l hl l.length 0 w (by omega) hw hb
  have e0 : ((0 : Nat) : Int) = 0 := rfl
  rw [e0, List.drop_zero] at h
  rw [inW_ne hw, inW_ne (cnts_ne w hw l)]
  generalize w.cnts l = w2 at *
  refine Ev_run t_entry_writer_counts rfl rfl ?_
  cases ha : l.any badN
  ·rw [ha, if_neg (by simp)] at h
   simp (disch := omega) only [go_sem, seval, i_entry_writer_counts, h]
  ·rw [ha, if_pos rfl] at h
   simp (disch := omega) only [go_sem, seval, i_entry_writer_counts, h]
theorem byts_ne (x : List UInt8) : byts x ≠ [] := fun h => num_ne x.length (List.append_eq_nil_iff.1 h).1
theorem emp_ne {x : List UInt8} (h : x ≠ []) : (eB x).isEmpty = false := by cases x with | nil => exact absurd rfl h | cons y l => rfl
theorem byt_ne (w : Wr) (x : List UInt8) (most : Int) (h : w.b ≠ []) : (w.byt x most).b ≠ [] := by
 unfold Wr.byt
 split
 ·exact h
 ·exact fun e => h (List.append_eq_nil_iff.1 e).1
theorem entry_bytes_ev (w : Wr) (x : List UInt8) (most : Int) (hx : x.length ≤ 1073741824) (hm : -9223372036854775808 ≤ most ∧ most < 9223372036854775808) (hb : w.b.length + x.length ≤ 1073741824) : Ev tab G0 n_entry_writer_bytes [.ptr 0 0, .sl true (eB x), i64 most] (inW w) = some ([], inW (w.byt x most)) := by
 have h1 := coder_Bytes_ev x hx
 have hne := byts_ne x
 have he := emp_ne hne
 have hbl := byts_len x
 obtain ⟨b, bad⟩ := w
 unfold Wr.byt
 simp only at hb ⊢
 by_cases hw : b = []
 ·subst hw
  rw [inW_nil rfl]
  refine Ev_run t_entry_writer_bytes rfl rfl ?_
  cases bad
  ·by_cases hc : most < x.length
   ·rw [if_pos (.inr hc), inW_nil rfl]
    simp (disch := omega) only [go_sem, seval, i_entry_writer_bytes, hc]
   ·rw [if_neg (by simp [hc])]
    simp only [List.nil_append]
    rw [inW_ne hne]
    generalize byts x = y at *
    simp (disch := omega) only [go_sem, seval, i_entry_writer_bytes, hc, h1, he]
  ·rw [if_pos (.inl rfl), inW_nil rfl]
   simp (disch := omega) only [go_sem, seval, i_entry_writer_bytes]
 ·rw [inW_ne hw]
  refine Ev_run t_entry_writer_bytes rfl rfl ?_
  cases bad
  ·by_cases hc : most < x.length
   ·rw [if_pos (.inr hc), inW_ne hw]
    simp (disch := omega) only [go_sem, seval, i_entry_writer_bytes, hc]
   ·rw [if_neg (by simp [hc]), inW_ne (fun e => hw (List.append_eq_nil_iff.1 e).1)]
    have hla : (b ++ byts x).length = b.length + (byts x).length := List.length_append
    simp only [hla]
    generalize byts x = y at *
    simp (disch := omega) only [go_sem, seval, i_entry_writer_bytes, hc, h1]
  ·rw [if_pos (.inl rfl), inW_ne hw]
   simp (disch := omega) only [go_sem, seval, i_entry_writer_bytes]
end Go.Proofs.Ytdgfbfkjdflabaa
namespace Go.Proofs.Ytdgfbfkjdflabaa
open Go.Ev
abbrev Ent := Int × Int × List UInt8
abbrev ecells (e : Ent) : List C := [.sc (.int .i64 e.1), .sc (.int .i64 e.2.1), .sl (eB e.2.2)]
def eE (l : List Ent) : List (List C) := l.map ecells
theorem eE_nil : eE [] = [] := rfl
theorem eE_len {l : List Ent} : (eE l).length = l.length := by simp [eE]
theorem eE_sz {l : List Ent} : szOk 3 (eE l) = true := by simp [szOk, eE]
theorem eE_get {l : List Ent} {i : Nat} (h : i < l.length) : (eE l)[i]? = some [.sc (.int .i64 (l.getD i (0, 0, [])).1), .sc (.int .i64 (l.getD i (0, 0, [])).2.1), .sl (eB (l.getD i (0, 0, [])).2.2)] := by
 simp [eE, List.getD, h]
theorem eE_app {a b : List Ent} : eE a ++ eE b = eE (a ++ b) := by simp [eE]
theorem eE_one {a b : Int} {c : List UInt8} : [[C.sc (.int .i64 a), C.sc (.int .i64 b), C.sl (eB c)]] = eE [(a, b, c)] := rfl
theorem eE_emp {x : Ent} {l : List Ent} : (eE (x :: l)).isEmpty = false := rfl
attribute [go_sem] eE_len eE_sz eE_get
theorem eI_1 {a : Int} : [[C.sc (.int .i64 a)]] = eI .i64 [a] := rfl
theorem eI_2 {a b : Int} : [[C.sc (.int .i64 a)], [C.sc (.int .i64 b)]] = eI .i64 [a, b] := rfl
theorem eI_s1 {a : Int} : (eI .i64 [0]).set 0 [C.sc (.int .i64 a)] = eI .i64 [a] := rfl
theorem eI_s2 {a b : Int} : ((eI .i64 [0, 0]).set 0 [C.sc (.int .i64 a)]).set 1 [C.sc (.int .i64 b)] = eI .i64 [a, b] := rfl
def Wr.ents (w : Wr) : List Ent → Wr
 | [] => w
 | e :: r => Wr.ents ((w.cnts [e.1, e.2.1]).byt e.2.2 4096) r
def sumE : List Ent → Nat
 | [] => 0
 | e :: r => 40 + e.2.2.length + sumE r
theorem sumE_len : ∀ l : List Ent, 40 * l.length ≤ sumE l
 | [] => by simp [sumE]
 | e :: r => by
  have := sumE_len r
  simp only [sumE, List.length_cons]
  omega
theorem byt_len (w : Wr) (x : List UInt8) (most : Int) : (w.byt x most).b.length ≤ w.b.length + 9 + x.length := by
 have := byts_len x
 unfold Wr.byt
 split
 ·simp only; omega
 ·simp only [List.length_append]; omega
theorem ents_len (w : Wr) : ∀ l : List Ent, (w.ents l).b.length ≤ w.b.length + sumE l := fun l => by
 induction l generalizing w with
 | nil => simp [Wr.ents, sumE]
 | cons e r ih =>
  have h1 := cnts_len w [e.1, e.2.1]
  have h2 := byt_len (w.cnts [e.1, e.2.1]) e.2.2 4096
  have h3 := ih ((w.cnts [e.1, e.2.1]).byt e.2.2 4096)
  simp only [Wr.ents, sumE, List.length_cons, List.length_nil] at *
  omega
theorem ents_ne (w : Wr) (h : w.b ≠ []) : ∀ l : List Ent, (w.ents l).b ≠ [] := fun l => by
 induction l generalizing w with
 | nil => exact h
 | cons e r ih => exact ih _ (byt_ne _ _ _ (cnts_ne w h _))
theorem ents_loopB (l : List Ent) (hl : l.length ≤ 1048576) : ∀ (n i : Nat) (w : Wr), n + i = l.length → w.b ≠ [] → w.b.length + sumE (l.drop i) ≤ 1073741824 → L_entry_writer_entries_0 (s_entry_writer_entries_K0 (.ptr 4 0) (.sl true (eE l)) (i64 l.length) (i64 i) [some (rowB2 w.b), none, none, none, some (oWr (.row 0 w.b.length) w.bad)]) = some (.exit 0, s_entry_writer_entries_J0 [some (rowB2 (w.ents (l.drop i)).b), none, none, none, some (oWr (.row 0 (w.ents (l.drop i)).b.length) (w.ents (l.drop i)).bad)])
 | 0, i, w, h, hne, hb => by
  rw [List.drop_of_length_le (by omega), L_entry_writer_entries_0_eq]
  simp only [Wr.ents]
  simp (disch := omega) only [go_sem, seval, i_entry_writer_entries_b0]
 | n + 1, i, w, h, hne, hb => by
  rw [drop_step (d := (0, 0, [])) (by omega)] at hb ⊢
  rw [L_entry_writer_entries_0_eq]
  simp only [Wr.ents, sumE] at hb ⊢
  have hx1 := cnts_len w [(l.getD i (0, 0, [])).1, (l.getD i (0, 0, [])).2.1]
  simp only [List.length_cons, List.length_nil] at hx1
  have hx2 := byt_len (w.cnts [(l.getD i (0, 0, [])).1, (l.getD i (0, 0, [])).2.1]) (l.getD i (0, 0, [])).2.2 4096
  have hn1 := cnts_ne w hne [(l.getD i (0, 0, [])).1, (l.getD i (0, 0, [])).2.1]
  have hn2 := byt_ne _ (l.getD i (0, 0, [])).2.2 4096 hn1
  have h1 := entry_counts_ev w [(l.getD i (0, 0, [])).1, (l.getD i (0, 0, [])).2.1] (by simp) (by simp only [List.length_cons, List.length_nil]; omega)
  have h2 := entry_bytes_ev (w.cnts [(l.getD i (0, 0, [])).1, (l.getD i (0, 0, [])).2.1]) (l.getD i (0, 0, [])).2.2 4096 (by omega) (by omega) (by omega)
  have ih := ents_loopB l hl n (i + 1) _ (by omega) hn2 (by omega)
  rw [inW_ne hne, inW_ne hn1] at h1
  rw [inW_ne hn1, inW_ne hn2] at h2
  generalize (w.cnts [(l.getD i (0, 0, [])).1, (l.getD i (0, 0, [])).2.1]).byt (l.getD i (0, 0, [])).2.2 4096 = w2 at *
  generalize w.cnts [(l.getD i (0, 0, [])).1, (l.getD i (0, 0, [])).2.1] = w1 at *
  generalize w2.ents (l.drop (i + 1)) = w3 at *
  generalize hd : l.getD i (0, 0, []) = e at *
  try simp (disch := omega) only [go_sem, seval] at ih
  simp (disch := omega) only [go_sem, seval, i_entry_writer_entries_b0, hd, eI_2, eI_s2, h1, h2, ih]
theorem ents_loopC (l : List Ent) (hl : l.length ≤ 1048576) : ∀ (n i : Nat) (w : Wr), n + i = l.length → w.b ≠ [] → w.b.length + sumE (l.drop i) ≤ 1073741824 → L_entry_writer_entries_0 (s_entry_writer_entries_K0 (.ptr 4 0) (.sl true (eE l)) (i64 l.length) (i64 i) [none, none, none, none, some (oWr (.row 5 w.b.length) w.bad), some (rowB2 w.b)]) = some (.exit 0, s_entry_writer_entries_J0 [none, none, none, none, some (oWr (.row 5 (w.ents (l.drop i)).b.length) (w.ents (l.drop i)).bad), some (rowB2 (w.ents (l.drop i)).b)])
 | 0, i, w, h, hne, hb => by
  rw [List.drop_of_length_le (by omega), L_entry_writer_entries_0_eq]
  simp only [Wr.ents]
  simp (disch := omega) only [go_sem, seval, i_entry_writer_entries_b0]
 | n + 1, i, w, h, hne, hb => by
  rw [drop_step (d := (0, 0, [])) (by omega)] at hb ⊢
  rw [L_entry_writer_entries_0_eq]
  simp only [Wr.ents, sumE] at hb ⊢
  have hx1 := cnts_len w [(l.getD i (0, 0, [])).1, (l.getD i (0, 0, [])).2.1]
  simp only [List.length_cons, List.length_nil] at hx1
  have hx2 := byt_len (w.cnts [(l.getD i (0, 0, [])).1, (l.getD i (0, 0, [])).2.1]) (l.getD i (0, 0, [])).2.2 4096
  have hn1 := cnts_ne w hne [(l.getD i (0, 0, [])).1, (l.getD i (0, 0, [])).2.1]
  have hn2 := byt_ne _ (l.getD i (0, 0, [])).2.2 4096 hn1
  have h1 := entry_counts_ev w [(l.getD i (0, 0, [])).1, (l.getD i (0, 0, [])).2.1] (by simp) (by simp only [List.length_cons, List.length_nil]; omega)
  have h2 := entry_bytes_ev (w.cnts [(l.getD i (0, 0, [])).1, (l.getD i (0, 0, [])).2.1]) (l.getD i (0, 0, [])).2.2 4096 (by omega) (by omega) (by omega)
  have ih := ents_loopC l hl n (i + 1) _ (by omega) hn2 (by omega)
  rw [inW_ne hne, inW_ne hn1] at h1
  rw [inW_ne hn1, inW_ne hn2] at h2
  generalize (w.cnts [(l.getD i (0, 0, [])).1, (l.getD i (0, 0, [])).2.1]).byt (l.getD i (0, 0, [])).2.2 4096 = w2 at *
  generalize w.cnts [(l.getD i (0, 0, [])).1, (l.getD i (0, 0, [])).2.1] = w1 at *
  generalize w2.ents (l.drop (i + 1)) = w3 at *
  generalize hd : l.getD i (0, 0, []) = e at *
  try simp (disch := omega) only [go_sem, seval] at ih
  simp (disch := omega) only [go_sem, seval, i_entry_writer_entries_b0, hd, eI_2, eI_s2, h1, h2, ih]
theorem entsW_ne (w : Wr) (n : Nat) (hn : n ≤ 1048576) : (w.cnts [(n : Int)]).b ≠ [] := by
 rw [cnts_ok (badN_ok (by omega))]
 simp only [Wr.cnts]
 exact fun e => num_ne n (List.append_eq_nil_iff.1 e).2
theorem entry_entries_ev (w : Wr) (l : List Ent) (hl : l.length ≤ 1048576) (hb : w.b.length + 9 + sumE l ≤ 1073741824) : Ev tab G0 n_entry_writer_entries [.ptr 0 0, .sl true (eE l)] (inW w) = some ([], inW ((w.cnts [(l.length : Int)]).ents l)) := by
 have hx1 := cnts_len w [(l.length : Int)]
 simp only [List.length_cons, List.length_nil] at hx1
 have hn1 := entsW_ne w l.length hl
 have h1 := entry_counts_ev w [(l.length : Int)] (by simp) (by simp only [List.length_cons, List.length_nil]; omega)
 have hn2 := ents_ne _ hn1 l
 have e0 : ((0 : Nat) : Int) = 0 := rfl
 rw [inW_ne hn1] at h1
 rw [inW_ne hn2]
 refine Ev_run t_entry_writer_entries rfl rfl ?_
 by_cases hw : w.b = []
 ·have ih := ents_loopB l hl l.length 0 _ (by omega) hn1 (by rw [List.drop_zero]; omega)
  rw [inW_nil hw] at h1 ⊢
  rw [e0, List.drop_zero] at ih
  generalize (w.cnts [(l.length : Int)]).ents l = w2 at *
  generalize w.cnts [(l.length : Int)] = w1 at *
  simp (disch := omega) only [go_sem, seval, i_entry_writer_entries, eI_1, eI_s1, h1, ih]
 ·have ih := ents_loopC l hl l.length 0 _ (by omega) hn1 (by rw [List.drop_zero]; omega)
  rw [inW_ne hw] at h1 ⊢
  rw [e0, List.drop_zero] at ih
  generalize (w.cnts [(l.length : Int)]).ents l = w2 at *
  generalize w.cnts [(l.length : Int)] = w1 at *
  simp (disch := omega) only [go_sem, seval, i_entry_writer_entries, eI_1, eI_s1, h1, ih]
theorem entry_members_ev (w : Wr) (l : List Int) (hl : l.length ≤ 1048576) (hb : w.b.length + 9 + 9 * l.length ≤ 1073741824) : Ev tab G0 n_entry_writer_members [.ptr 0 0, .sl true (eI .i64 l)] (inW w) = some ([], inW ((w.cnts [(l.length : Int)]).cnts l)) := by
 have hx1 := cnts_len w [(l.length : Int)]
 simp only [List.length_cons, List.length_nil] at hx1
 have hn1 := entsW_ne w l.length hl
 have h1 := entry_counts_ev w [(l.length : Int)] (by simp) (by simp only [List.length_cons, List.length_nil]; omega)
 have h2 := entry_counts_ev (w.cnts [(l.length : Int)]) l hl (by omega)
 have hn2 := cnts_ne _ hn1 l
 rw [inW_ne hn1] at h1
 rw [inW_ne hn1, inW_ne hn2] at h2
 rw [inW_ne hn2]
 refine Ev_run t_entry_writer_members rfl rfl ?_
 generalize (w.cnts [(l.length : Int)]).cnts l = w2 at *
 generalize w.cnts [(l.length : Int)] = w1 at *
 by_cases hw : w.b = []
 ·rw [inW_nil hw] at h1 ⊢
  simp (disch := omega) only [go_sem, seval, i_entry_writer_members, eI_1, eI_s1, h1, h2]
 ·rw [inW_ne hw] at h1 ⊢
  simp (disch := omega) only [go_sem, seval, i_entry_writer_members, eI_1, eI_s1, h1, h2]
def Wr.endC (w : Wr) : Int := if w.bad = true then 1 else if 1048576 < w.b.length then 2 else 0
def Wr.endB (w : Wr) : List UInt8 := if w.endC = 0 then w.b else []
theorem endC_cases (w : Wr) : w.endC = 0 ∨ w.endC = 1 ∨ w.endC = 2 := by
 unfold Wr.endC
 split
 ·exact .inr (.inl rfl)
 ·split
  ·exact .inr (.inr rfl)
  ·exact .inl rfl
theorem entry_end_ev (w : Wr) (hb : w.b.length ≤ 1073741824) (hne : w.b ≠ []) : ∃ outs, outs.length = 2 ∧ Ev tab G0 n_entry_writer_end [.ptr 0 0] (inW w) = some ([.sl true (eB w.endB), errV w.endC], outs) ∧ ∃ fr, outs = [oWr (.row 1 w.b.length) w.bad, .row ty_uint8 1 true fr (eB w.b)] := by
 rw [inW_ne hne]
 obtain ⟨b, bad⟩ := w
 simp only at hb hne
 unfold Wr.endB Wr.endC
 cases bad
 ·simp only [Bool.false_eq_true, if_false]
  by_cases hl : 1048576 < b.length
  ·rw [if_pos hl, if_neg (by decide), errV, if_neg (by decide)]
   refine ⟨_, rfl, Ev_run t_entry_writer_end rfl rfl ?_, false, rfl⟩
   simp (disch := omega) only [go_sem, seval, i_entry_writer_end]
  ·rw [if_neg hl, if_pos rfl, errV, if_pos rfl]
   refine ⟨_, rfl, Ev_run t_entry_writer_end rfl rfl ?_, true, rfl⟩
   simp (disch := omega) only [go_sem, seval, i_entry_writer_end]
 ·simp only [if_true]
  rw [if_neg (by decide), errV, if_neg (by decide)]
  refine ⟨_, rfl, Ev_run t_entry_writer_end rfl rfl ?_, false, rfl⟩
  simp (disch := omega) only [go_sem, seval, i_entry_writer_end]
end Go.Proofs.Ytdgfbfkjdflabaa
namespace Go.Proofs.Ytdgfbfkjdflabaa
open Go.Ev
def Wr.rbyt (w : Wr) (x : List UInt8) (most : Int) : Wr := if most < x.length then ⟨w.b, true⟩ else ⟨w.b ++ byts x, w.bad⟩
def Wr.rmem (w : Wr) : List Int → Wr
 | [] => w
 | n :: r => Wr.rmem (w.cnts [n]) r
def Wr.rent1 (w : Wr) (e : Ent) : Wr := ((w.cnts [e.1]).cnts [e.2.1]).rbyt e.2.2 4096
def Wr.rents (w : Wr) : List Ent → Wr
 | [] => w
 | e :: r => Wr.rents (w.rent1 e) r
theorem cnt1_bad {w : Wr} {n : Int} (h : badN n = true) : w.cnts [n] = ⟨w.b, true⟩ := cnts_bad h
theorem cnt1_ok {w : Wr} {n : Int} (h : badN n = false) : w.cnts [n] = ⟨w.b ++ num n, w.bad⟩ := by rw [cnts_ok h]; rfl
theorem rbyt_ne (w : Wr) (x : List UInt8) (most : Int) (h : w.b ≠ []) : (w.rbyt x most).b ≠ [] := by
 unfold Wr.rbyt
 split
 ·exact h
 ·exact fun e => h (List.append_eq_nil_iff.1 e).1
theorem rbyt_len (w : Wr) (x : List UInt8) (most : Int) : (w.rbyt x most).b.length ≤ w.b.length + 9 + x.length := by
 have := byts_len x
 unfold Wr.rbyt
 split
 ·simp only; omega
 ·simp only [List.length_append]; omega
theorem cnt1_len (w : Wr) (n : Int) : (w.cnts [n]).b.length ≤ w.b.length + 9 := by
 have := cnts_len w [n]
 simpa using this
theorem rmem_len (w : Wr) : ∀ l : List Int, (w.rmem l).b.length ≤ w.b.length + 9 * l.length := fun l => by
 induction l generalizing w with
 | nil => simp [Wr.rmem]
 | cons n r ih =>
  have h1 := cnt1_len w n
  have h2 := ih (w.cnts [n])
  simp only [Wr.rmem, List.length_cons] at *
  omega
theorem rmem_ne (w : Wr) (h : w.b ≠ []) : ∀ l : List Int, (w.rmem l).b ≠ [] := fun l => by
 induction l generalizing w with
 | nil => exact h
 | cons n r ih => exact ih _ (cnts_ne w h _)
theorem rent1_ne (w : Wr) (h : w.b ≠ []) (e : Ent) : (w.rent1 e).b ≠ [] := rbyt_ne _ _ _ (cnts_ne _ (cnts_ne w h _) _)
theorem rent1_len (w : Wr) (e : Ent) : (w.rent1 e).b.length ≤ w.b.length + 27 + e.2.2.length := by
 have h1 := cnt1_len w e.1
 have h2 := cnt1_len (w.cnts [e.1]) e.2.1
 have h3 := rbyt_len ((w.cnts [e.1]).cnts [e.2.1]) e.2.2 4096
 unfold Wr.rent1
 omega
theorem rents_len (w : Wr) : ∀ l : List Ent, (w.rents l).b.length ≤ w.b.length + sumE l := fun l => by
 induction l generalizing w with
 | nil => simp [Wr.rents, sumE]
 | cons e r ih =>
  have h1 := rent1_len w e
  have h3 := ih (w.rent1 e)
  simp only [Wr.rents, sumE] at *
  omega
theorem rents_ne (w : Wr) (h : w.b ≠ []) : ∀ l : List Ent, (w.rents l).b ≠ [] := fun l => by
 induction l generalizing w with
 | nil => exact h
 | cons e r ih => exact ih _ (rent1_ne w h e)
theorem ref14_count_ev (w : Wr) (n : Int) (hb : w.b.length ≤ 1073741824) : Ev tab G0 n_ref14_Writer_count [.ptr 0 0, i64 n] (inW w) = some ([], inW (w.cnts [n])) := by
 obtain ⟨b, bad⟩ := w
 simp only at hb
 by_cases c1 : n < 0
 ·rw [cnt1_bad (badN_lo c1)]
  refine Ev_run t_ref14_Writer_count rfl rfl ?_
  by_cases hw : b = []
  ·subst hw
   rw [inW_nil rfl, inW_nil rfl]
   simp (disch := omega) only [go_sem, seval, i_ref14_Writer_count, c1]
  ·rw [inW_ne hw, inW_ne hw]
   simp (disch := omega) only [go_sem, seval, i_ref14_Writer_count, c1]
 ·by_cases c2 : 1152921504606846976 < n
  ·rw [cnt1_bad (badN_hi c2)]
   refine Ev_run t_ref14_Writer_count rfl rfl ?_
   by_cases hw : b = []
   ·subst hw
    rw [inW_nil rfl, inW_nil rfl]
    simp (disch := omega) only [go_sem, seval, i_ref14_Writer_count, c1, c2]
   ·rw [inW_ne hw, inW_ne hw]
    simp (disch := omega) only [go_sem, seval, i_ref14_Writer_count, c1, c2]
  ·have hk := badN_ok (n := n) (by omega)
   have hnl := num_len n
   have he := num_emp n
   have hne := num_ne n
   have h1 := ref02_Number_ev n (by omega)
   rw [cnt1_ok hk]
   refine Ev_run t_ref14_Writer_count rfl rfl ?_
   by_cases hw : b = []
   ·subst hw
    simp only [List.nil_append]
    rw [inW_nil rfl, inW_ne hne]
    generalize num n = nx at *
    simp (disch := omega) only [go_sem, seval, i_ref14_Writer_count, c1, c2, h1, he]
   ·rw [inW_ne hw, inW_ne (fun e => hw (List.append_eq_nil_iff.1 e).1)]
    have hla : (b ++ num n).length = b.length + (num n).length := List.length_append
    simp only [hla]
    generalize num n = nx at *
    simp (disch := omega) only [go_sem, seval, i_ref14_Writer_count, c1, c2, h1, he]
theorem ref14_bytes_ev (w : Wr) (x : List UInt8) (most : Int) (hx : x.length ≤ 1073741824) (hm : -9223372036854775808 ≤ most ∧ most < 9223372036854775808) (hb : w.b.length + x.length ≤ 1073741824) : Ev tab G0 n_ref14_Writer_bytes [.ptr 0 0, .sl true (eB x), i64 most] (inW w) = some ([], inW (w.rbyt x most)) := by
 have h1 := ref02_Bytes_ev x hx
 have hne := byts_ne x
 have he := emp_ne hne
 have hbl := byts_len x
 obtain ⟨b, bad⟩ := w
 unfold Wr.rbyt
 simp only at hb ⊢
 refine Ev_run t_ref14_Writer_bytes rfl rfl ?_
 by_cases hw : b = []
 ·subst hw
  rw [inW_nil rfl]
  by_cases hc : most < x.length
  ·rw [if_pos hc, inW_nil rfl]
   simp (disch := omega) only [go_sem, seval, i_ref14_Writer_bytes, hc]
  ·rw [if_neg hc]
   simp only [List.nil_append]
   rw [inW_ne hne]
   generalize byts x = y at *
   simp (disch := omega) only [go_sem, seval, i_ref14_Writer_bytes, hc, h1, he]
 ·rw [inW_ne hw]
  by_cases hc : most < x.length
  ·rw [if_pos hc, inW_ne hw]
   simp (disch := omega) only [go_sem, seval, i_ref14_Writer_bytes, hc]
  ·rw [if_neg hc, inW_ne (fun e => hw (List.append_eq_nil_iff.1 e).1)]
   have hla : (b ++ byts x).length = b.length + (byts x).length := List.length_append
   simp only [hla]
   generalize byts x = y at *
   simp (disch := omega) only [go_sem, seval, i_ref14_Writer_bytes, hc, h1]
theorem rmem_loopB (l : List Int) (hl : l.length ≤ 1048576) : ∀ (n i : Nat) (w : Wr), n + i = l.length → w.b ≠ [] → w.b.length + 9 * n ≤ 1073741824 → L_ref14_Writer_members_0 (s_ref14_Writer_members_K0 (.ptr 2 0) (.sl true (eI .i64 l)) (i64 i) [some (rowB2 w.b), none, some (oWr (.row 0 w.b.length) w.bad)]) = some (.exit 0, s_ref14_Writer_members_J0 [some (rowB2 (w.rmem (l.drop i)).b), none, some (oWr (.row 0 (w.rmem (l.drop i)).b.length) (w.rmem (l.drop i)).bad)])
 | 0, i, w, h, hne, hb => by
  rw [List.drop_of_length_le (by omega), L_ref14_Writer_members_0_eq]
  simp only [Wr.rmem]
  simp (disch := omega) only [go_sem, seval, i_ref14_Writer_members_b0]
 | n + 1, i, w, h, hne, hb => by
  rw [drop_step (d := 0) (by omega), L_ref14_Writer_members_0_eq]
  simp only [Wr.rmem]
  have hx1 := cnt1_len w (l.getD i 0)
  have hn1 := cnts_ne w hne [l.getD i 0]
  have h1 := ref14_count_ev w (l.getD i 0) (by omega)
  have ih := rmem_loopB l hl n (i + 1) _ (by omega) hn1 (by omega)
  rw [inW_ne hne, inW_ne hn1] at h1
  generalize w.cnts [l.getD i 0] = w1 at *
  generalize w1.rmem (l.drop (i + 1)) = w3 at *
  generalize hd : l.getD i 0 = e at *
  try simp (disch := omega) only [go_sem, seval] at ih
  simp (disch := omega) only [go_sem, seval, i_ref14_Writer_members_b0, hd, h1, ih]
theorem rmem_loopC (l : List Int) (hl : l.length ≤ 1048576) : ∀ (n i : Nat) (w : Wr), n + i = l.length → w.b ≠ [] → w.b.length + 9 * n ≤ 1073741824 → L_ref14_Writer_members_0 (s_ref14_Writer_members_K0 (.ptr 2 0) (.sl true (eI .i64 l)) (i64 i) [none, none, some (oWr (.row 3 w.b.length) w.bad), some (rowB2 w.b)]) = some (.exit 0, s_ref14_Writer_members_J0 [none, none, some (oWr (.row 3 (w.rmem (l.drop i)).b.length) (w.rmem (l.drop i)).bad), some (rowB2 (w.rmem (l.drop i)).b)])
 | 0, i, w, h, hne, hb => by
  rw [List.drop_of_length_le (by omega), L_ref14_Writer_members_0_eq]
  simp only [Wr.rmem]
  simp (disch := omega) only [go_sem, seval, i_ref14_Writer_members_b0]
 | n + 1, i, w, h, hne, hb => by
  rw [drop_step (d := 0) (by omega), L_ref14_Writer_members_0_eq]
  simp only [Wr.rmem]
  have hx1 := cnt1_len w (l.getD i 0)
  have hn1 := cnts_ne w hne [l.getD i 0]
  have h1 := ref14_count_ev w (l.getD i 0) (by omega)
  have ih := rmem_loopC l hl n (i + 1) _ (by omega) hn1 (by omega)
  rw [inW_ne hne, inW_ne hn1] at h1
  generalize w.cnts [l.getD i 0] = w1 at *
  generalize w1.rmem (l.drop (i + 1)) = w3 at *
  generalize hd : l.getD i 0 = e at *
  try simp (disch := omega) only [go_sem, seval] at ih
  simp (disch := omega) only [go_sem, seval, i_ref14_Writer_members_b0, hd, h1, ih]
theorem rents_loopB (l : List Ent) (hl : l.length ≤ 1048576) : ∀ (n i : Nat) (w : Wr), n + i = l.length → w.b ≠ [] → w.b.length + sumE (l.drop i) ≤ 1073741824 → L_ref14_Writer_entries_0 (s_ref14_Writer_entries_K0 (.ptr 4 0) (.sl true (eE l)) (i64 i) [some (rowB2 w.b), none, none, none, some (oWr (.row 0 w.b.length) w.bad)]) = some (.exit 0, s_ref14_Writer_entries_J0 [some (rowB2 (w.rents (l.drop i)).b), none, none, none, some (oWr (.row 0 (w.rents (l.drop i)).b.length) (w.rents (l.drop i)).bad)])
 | 0, i, w, h, hne, hb => by
  rw [List.drop_of_length_le (by omega), L_ref14_Writer_entries_0_eq]
  simp only [Wr.rents]
  simp (disch := omega) only [go_sem, seval, i_ref14_Writer_entries_b0]
 | n + 1, i, w, h, hne, hb => by
  rw [drop_step (d := (0, 0, [])) (by omega)] at hb ⊢
  rw [L_ref14_Writer_entries_0_eq]
  simp only [Wr.rents, sumE] at hb ⊢
  have hx0 := rent1_len w (l.getD i (0, 0, []))
  unfold Wr.rent1 at hx0 ⊢
  have hx1 := cnt1_len w (l.getD i (0, 0, [])).1
  have hx2 := cnt1_len (w.cnts [(l.getD i (0, 0, [])).1]) (l.getD i (0, 0, [])).2.1
  have hn1 := cnts_ne w hne [(l.getD i (0, 0, [])).1]
  have hn2 := cnts_ne _ hn1 [(l.getD i (0, 0, [])).2.1]
  have hn3 := rbyt_ne _ (l.getD i (0, 0, [])).2.2 4096 hn2
  have h1 := ref14_count_ev w (l.getD i (0, 0, [])).1 (by omega)
  have h2 := ref14_count_ev (w.cnts [(l.getD i (0, 0, [])).1]) (l.getD i (0, 0, [])).2.1 (by omega)
  have h3 := ref14_bytes_ev ((w.cnts [(l.getD i (0, 0, [])).1]).cnts [(l.getD i (0, 0, [])).2.1]) (l.getD i (0, 0, [])).2.2 4096 (by omega) (by omega) (by omega)
  have ih := rents_loopB l hl n (i + 1) _ (by omega) hn3 (by omega)
  rw [inW_ne hne, inW_ne hn1] at h1
  rw [inW_ne hn1, inW_ne hn2] at h2
  rw [inW_ne hn2, inW_ne hn3] at h3
  generalize ((w.cnts [(l.getD i (0, 0, [])).1]).cnts [(l.getD i (0, 0, [])).2.1]).rbyt (l.getD i (0, 0, [])).2.2 4096 = w3 at *
  generalize (w.cnts [(l.getD i (0, 0, [])).1]).cnts [(l.getD i (0, 0, [])).2.1] = w2 at *
  generalize w.cnts [(l.getD i (0, 0, [])).1] = w1 at *
  generalize w3.rents (l.drop (i + 1)) = w4 at *
  generalize hd : l.getD i (0, 0, []) = e at *
  try simp (disch := omega) only [go_sem, seval] at ih
  simp (disch := omega) only [go_sem, seval, i_ref14_Writer_entries_b0, hd, h1, h2, h3, ih]
theorem rents_loopC (l : List Ent) (hl : l.length ≤ 1048576) : ∀ (n i : Nat) (w : Wr), n + i = l.length → w.b ≠ [] → w.b.length + sumE (l.drop i) ≤ 1073741824 → L_ref14_Writer_entries_0 (s_ref14_Writer_entries_K0 (.ptr 4 0) (.sl true (eE l)) (i64 i) [none, none, none, none, some (oWr (.row 5 w.b.length) w.bad), some (rowB2 w.b)]) = some (.exit 0, s_ref14_Writer_entries_J0 [none, none, none, none, some (oWr (.row 5 (w.rents (l.drop i)).b.length) (w.rents (l.drop i)).bad), some (rowB2 (w.rents (l.drop i)).b)])
 | 0, i, w, h, hne, hb => by
  rw [List.drop_of_length_le (by omega), L_ref14_Writer_entries_0_eq]
  simp only [Wr.rents]
  simp (disch := omega) only [go_sem, seval, i_ref14_Writer_entries_b0]
 | n + 1, i, w, h, hne, hb => by
  rw [drop_step (d := (0, 0, [])) (by omega)] at hb ⊢
  rw [L_ref14_Writer_entries_0_eq]
  simp only [Wr.rents, sumE] at hb ⊢
  have hx0 := rent1_len w (l.getD i (0, 0, []))
  unfold Wr.rent1 at hx0 ⊢
  have hx1 := cnt1_len w (l.getD i (0, 0, [])).1
  have hx2 := cnt1_len (w.cnts [(l.getD i (0, 0, [])).1]) (l.getD i (0, 0, [])).2.1
  have hn1 := cnts_ne w hne [(l.getD i (0, 0, [])).1]
  have hn2 := cnts_ne _ hn1 [(l.getD i (0, 0, [])).2.1]
  have hn3 := rbyt_ne _ (l.getD i (0, 0, [])).2.2 4096 hn2
  have h1 := ref14_count_ev w (l.getD i (0, 0, [])).1 (by omega)
  have h2 := ref14_count_ev (w.cnts [(l.getD i (0, 0, [])).1]) (l.getD i (0, 0, [])).2.1 (by omega)
  have h3 := ref14_bytes_ev ((w.cnts [(l.getD i (0, 0, [])).1]).cnts [(l.getD i (0, 0, [])).2.1]) (l.getD i (0, 0, [])).2.2 4096 (by omega) (by omega) (by omega)
  have ih := rents_loopC l hl n (i + 1) _ (by omega) hn3 (by omega)
  rw [inW_ne hne, inW_ne hn1] at h1
  rw [inW_ne hn1, inW_ne hn2] at h2
  rw [inW_ne hn2, inW_ne hn3] at h3
  generalize ((w.cnts [(l.getD i (0, 0, [])).1]).cnts [(l.getD i (0, 0, [])).2.1]).rbyt (l.getD i (0, 0, [])).2.2 4096 = w3 at *
  generalize (w.cnts [(l.getD i (0, 0, [])).1]).cnts [(l.getD i (0, 0, [])).2.1] = w2 at *
  generalize w.cnts [(l.getD i (0, 0, [])).1] = w1 at *
  generalize w3.rents (l.drop (i + 1)) = w4 at *
  generalize hd : l.getD i (0, 0, []) = e at *
  try simp (disch := omega) only [go_sem, seval] at ih
  simp (disch := omega) only [go_sem, seval, i_ref14_Writer_entries_b0, hd, h1, h2, h3, ih]
theorem ref14_members_ev (w : Wr) (l : List Int) (hl : l.length ≤ 1048576) (hb : w.b.length + 9 + 9 * l.length ≤ 1073741824) : Ev tab G0 n_ref14_Writer_members [.ptr 0 0, .sl true (eI .i64 l)] (inW w) = some ([], inW ((w.cnts [(l.length : Int)]).rmem l)) := by
 have hx1 := cnt1_len w (l.length : Int)
 have hn1 := entsW_ne w l.length hl
 have h1 := ref14_count_ev w (l.length : Int) (by omega)
 have hn2 := rmem_ne _ hn1 l
 have e0 : ((0 : Nat) : Int) = 0 := rfl
 rw [inW_ne hn1] at h1
 rw [inW_ne hn2]
 refine Ev_run t_ref14_Writer_members rfl rfl ?_
 by_cases hw : w.b = []
 ·have ih := rmem_loopB l hl l.length 0 _ (by omega) hn1 (by omega)
  rw [inW_nil hw] at h1 ⊢
  rw [e0, List.drop_zero] at ih
  generalize (w.cnts [(l.length : Int)]).rmem l = w2 at *
  generalize w.cnts [(l.length : Int)] = w1 at *
  simp (disch := omega) only [go_sem, seval, i_ref14_Writer_members, h1, ih]
 ·have ih := rmem_loopC l hl l.length 0 _ (by omega) hn1 (by omega)
  rw [inW_ne hw] at h1 ⊢
  rw [e0, List.drop_zero] at ih
  generalize (w.cnts [(l.length : Int)]).rmem l = w2 at *
  generalize w.cnts [(l.length : Int)] = w1 at *
  simp (disch := omega) only [go_sem, seval, i_ref14_Writer_members, h1, ih]
theorem ref14_entries_ev (w : Wr) (l : List Ent) (hl : l.length ≤ 1048576) (hb : w.b.length + 9 + sumE l ≤ 1073741824) : Ev tab G0 n_ref14_Writer_entries [.ptr 0 0, .sl true (eE l)] (inW w) = some ([], inW ((w.cnts [(l.length : Int)]).rents l)) := by
 have hx1 := cnt1_len w (l.length : Int)
 have hn1 := entsW_ne w l.length hl
 have h1 := ref14_count_ev w (l.length : Int) (by omega)
 have hn2 := rents_ne _ hn1 l
 have e0 : ((0 : Nat) : Int) = 0 := rfl
 rw [inW_ne hn1] at h1
 rw [inW_ne hn2]
 refine Ev_run t_ref14_Writer_entries rfl rfl ?_
 by_cases hw : w.b = []
 ·have ih := rents_loopB l hl l.length 0 _ (by omega) hn1 (by rw [List.drop_zero]; omega)
  rw [inW_nil hw] at h1 ⊢
  rw [e0, List.drop_zero] at ih
  generalize (w.cnts [(l.length : Int)]).rents l = w2 at *
  generalize w.cnts [(l.length : Int)] = w1 at *
  simp (disch := omega) only [go_sem, seval, i_ref14_Writer_entries, h1, ih]
 ·have ih := rents_loopC l hl l.length 0 _ (by omega) hn1 (by rw [List.drop_zero]; omega)
  rw [inW_ne hw] at h1 ⊢
  rw [e0, List.drop_zero] at ih
  generalize (w.cnts [(l.length : Int)]).rents l = w2 at *
  generalize w.cnts [(l.length : Int)] = w1 at *
  simp (disch := omega) only [go_sem, seval, i_ref14_Writer_entries, h1, ih]
theorem ref14_end_ev (w : Wr) (hb : w.b.length ≤ 1073741824) (hne : w.b ≠ []) : ∃ fr, Ev tab G0 n_ref14_Writer_end [.ptr 0 0] (inW w) = some ([.sl true (eB w.endB), i64 w.endC], [oWr (.row 1 w.b.length) w.bad, .row ty_uint8 1 true fr (eB w.b)]) := by
 rw [inW_ne hne]
 obtain ⟨b, bad⟩ := w
 simp only at hb hne
 unfold Wr.endB Wr.endC
 cases bad
 ·simp only [Bool.false_eq_true, if_false]
  by_cases hl : 1048576 < b.length
  ·rw [if_pos hl, if_neg (by decide)]
   refine ⟨false, Ev_run t_ref14_Writer_end rfl rfl ?_⟩
   simp (disch := omega) only [go_sem, seval, i_ref14_Writer_end]
  ·rw [if_neg hl, if_pos rfl]
   refine ⟨true, Ev_run t_ref14_Writer_end rfl rfl ?_⟩
   simp (disch := omega) only [go_sem, seval, i_ref14_Writer_end]
 ·simp only [if_true]
  rw [if_neg (by decide)]
  refine ⟨false, Ev_run t_ref14_Writer_end rfl rfl ?_⟩
  simp (disch := omega) only [go_sem, seval, i_ref14_Writer_end]
end Go.Proofs.Ytdgfbfkjdflabaa
namespace Go.Proofs.Ytdgfbfkjdflabaa
open Go.Ev
def Sm (a b : Wr) : Prop := a.bad = b.bad ∧ (a.bad = false → a.b = b.b)
theorem cnts_badT (w : Wr) (h : w.bad = true) : ∀ l : List Int, (w.cnts l).bad = true := fun l => by
 induction l generalizing w with
 | nil => exact h
 | cons n r ih =>
  cases hn : badN n
  ·rw [cnts_ok hn]; exact ih _ h
  ·rw [cnts_bad hn]
theorem rmem_badT (w : Wr) (h : w.bad = true) : ∀ l : List Int, (w.rmem l).bad = true := fun l => by
 induction l generalizing w with
 | nil => exact h
 | cons n r ih => exact ih _ (cnts_badT w h _)
theorem Sm.bad {a b : Wr} (h1 : a.bad = true) (h2 : b.bad = true) : Sm a b := ⟨by rw [h1, h2], fun h => by rw [h1] at h; cases h⟩
theorem Sm.cnt {a b : Wr} (h : Sm a b) (n : Int) : Sm (a.cnts [n]) (b.cnts [n]) := by
 cases hn : badN n
 ·rw [cnt1_ok hn, cnt1_ok hn]
  exact ⟨h.1, fun x => by simp only at x ⊢; rw [h.2 x]⟩
 ·rw [cnt1_bad hn, cnt1_bad hn]
  exact Sm.bad rfl rfl
theorem Sm.cnts : ∀ (l : List Int) {a b : Wr}, Sm a b → Sm (a.cnts l) (b.rmem l)
 | [], a, b, h => h
 | n :: r, a, b, h => by
  have h1 := h.cnt n
  simp only [Wr.rmem]
  cases hn : badN n
  ·rw [cnt1_ok hn] at h1
   rw [cnts_ok hn]
   exact Sm.cnts r h1
  ·rw [cnts_bad hn, cnt1_bad hn]
   exact Sm.bad rfl (rmem_badT _ rfl r)
theorem Sm.byt {a b : Wr} (h : Sm a b) (x : List UInt8) (m : Int) : Sm (a.byt x m) (b.rbyt x m) := by
 unfold Wr.byt Wr.rbyt
 by_cases hm : m < x.length
 ·rw [if_pos (.inr hm), if_pos hm]
  exact Sm.bad rfl rfl
 ·rw [if_neg hm]
  cases hb : a.bad
  ·rw [if_neg (by simp [hm])]
   refine ⟨?_, fun _ => ?_⟩
   ·simp only; rw [← h.1, hb]
   ·simp only; rw [h.2 hb]
  ·rw [if_pos (.inl rfl)]
   refine Sm.bad rfl ?_
   simp only; rw [← h.1, hb]
theorem Sm.ents : ∀ (l : List Ent) {a b : Wr}, Sm a b → Sm (a.ents l) (b.rents l)
 | [], a, b, h => h
 | e :: r, a, b, h => by
  simp only [Wr.ents, Wr.rents, Wr.rent1]
  exact Sm.ents r (Sm.byt (Sm.cnts [e.1, e.2.1] h) _ _)
theorem Sm.fin {a b : Wr} (h : Sm a b) : a.endC = b.endC ∧ a.endB = b.endB := by
 have h1 : a.endC = b.endC := by
  unfold Wr.endC
  rw [← h.1]
  cases hb : a.bad
  ·rw [h.2 hb]
  ·rfl
 refine ⟨h1, ?_⟩
 unfold Wr.endB
 rw [← h1]
 by_cases hc : a.endC = 0
 ·rw [if_pos hc, if_pos hc]
  refine h.2 ?_
  unfold Wr.endC at hc
  split at hc
  ·cases hc
  ·rename_i hb
   simpa using hb
 ·rw [if_neg hc, if_neg hc]
structure LG where
 ix : Int
 tm : Int
 mem : List Int
 ents : List Ent
abbrev avLog (g : LG) : AV := .agg [i64 g.ix, i64 g.tm, .sl true (eI .i64 g.mem), .sl true (eE g.ents)]
def LG.p1 (g : LG) : Wr := Wr.cnts ⟨[], false⟩ [g.ix, g.tm]
def LG.p2 (g : LG) : Wr := (g.p1.cnts [(g.mem.length : Int)]).cnts g.mem
def LG.p (g : LG) : Wr := (g.p2.cnts [(g.ents.length : Int)]).ents g.ents
def LG.r1 (g : LG) : Wr := (Wr.cnts ⟨[], false⟩ [g.ix]).cnts [g.tm]
def LG.r2 (g : LG) : Wr := (g.r1.cnts [(g.mem.length : Int)]).rmem g.mem
def LG.r (g : LG) : Wr := (g.r2.cnts [(g.ents.length : Int)]).rents g.ents
theorem Sm.refl (w : Wr) : Sm w w := ⟨rfl, fun _ => rfl⟩
end Go.Proofs.Ytdgfbfkjdflabaa
namespace Go.Proofs.Ytdgfbfkjdflabaa
open Go.Ev
end Go.Proofs.Ytdgfbfkjdflabaa
namespace Go.Proofs.Ytdgfbfkjdflabaa
open Go.Ev
inductive T where
 | mk (kind : Int) (key value digest : List UInt8) (kids : List T)
namespace T
def kind : T → Int | .mk k _ _ _ _ => k
def key : T → List UInt8 | .mk _ a _ _ _ => a
def value : T → List UInt8 | .mk _ _ b _ _ => b
def digest : T → List UInt8 | .mk _ _ _ c _ => c
def kids : T → List T | .mk _ _ _ _ l => l
def no : T := .mk 0 [] [] [] []
end T
theorem T_eta (t : T) : T.mk t.kind t.key t.value t.digest t.kids = t := by cases t; rfl
theorem T_ind {P : T → Prop} (h : ∀ t : T, (∀ k ∈ t.kids, P k) → P t) : ∀ t, P t
 | .mk k a b c l => h _ fun x hx => T_ind h x
termination_by t => SizeOf.sizeOf t
decreasing_by
 have := List.sizeOf_lt_of_mem hx
 simp only [T.kids] at this
 simp only [T.mk.sizeOf_spec]
 omega
mutual
def T.cells : T → List C
 | .mk k a b c l => [.sc (.int .i64 k), .sl (eB a), .sl (eB b), .sl (eB c), .sl (eT l)]
def eT : List T → List (List C)
 | [] => []
 | t :: l => t.cells :: eT l
end
theorem cells_eq (t : T) : t.cells = [.sc (.int .i64 t.kind), .sl (eB t.key), .sl (eB t.value), .sl (eB t.digest), .sl (eT t.kids)] := by cases t; simp only [T.cells, T.kind, T.key, T.value, T.digest, T.kids]
theorem eT_map : ∀ l, eT l = l.map T.cells
 | [] => by simp only [eT, List.map_nil]
 | t :: l => by simp only [eT, List.map_cons, eT_map l]
theorem eT_nil : eT [] = [] := by simp only [eT]
theorem eT_len {l : List T} : (eT l).length = l.length := by simp [eT_map]
theorem eT_sz {l : List T} : szOk 5 (eT l) = true := by
 simp only [szOk, eT_map, List.all_map, List.all_eq_true, Function.comp]
 intro t _
 rw [cells_eq]
 rfl
theorem eT_get {l : List T} {i : Nat} (h : i < l.length) : (eT l)[i]? = some (l.getD i .no).cells := by
 simp [eT_map, List.getD, h]
theorem eT_app {a b : List T} : eT a ++ eT b = eT (a ++ b) := by simp [eT_map]
theorem eT_one {t : T} : [t.cells] = eT [t] := by simp [eT_map]
theorem eT_cons {t : T} {l : List T} : t.cells :: eT l = eT (t :: l) := by simp [eT_map]
theorem eT_take {l : List T} {n : Nat} : (eT l).take n = eT (l.take n) := by simp [eT_map]
theorem eT_drop {l : List T} {n : Nat} : (eT l).drop n = eT (l.drop n) := by simp [eT_map]
abbrev avT (t : T) : AV := .agg [i64 t.kind, .sl true (eB t.key), .sl true (eB t.value), .sl true (eB t.digest), .sl true (eT t.kids)]
abbrev oT (t : T) : Ev.Obj := .var [i64 t.kind, .sl true (eB t.key), .sl true (eB t.value), .sl true (eB t.digest), .sl true (eT t.kids)]
theorem cells_of {o : Bool} {t : T} : ofCs o true t.cells = some (.agg [i64 t.kind, .sl o (eB t.key), .sl o (eB t.value), .sl o (eB t.digest), .sl o (eT t.kids)]) := by rw [cells_eq]; rfl
theorem cells_to {k : Int} {a b c : List UInt8} {l : List T} : [C.sc (.int .i64 k), .sl (eB a), .sl (eB b), .sl (eB c), .sl (eT l)] = T.cells (.mk k a b c l) := by simp only [T.cells]
theorem cells_map {o : Bool} {t : T} : t.cells.map (ofC o) = [i64 t.kind, .sl o (eB t.key), .sl o (eB t.value), .sl o (eB t.digest), .sl o (eT t.kids)] := by rw [cells_eq]; rfl
theorem cells_take {t : T} : t.cells.take 5 = t.cells := by rw [cells_eq]; rfl
theorem cells_len {t : T} : t.cells.length = 5 := by rw [cells_eq]; rfl
theorem T_kind {k : Int} {a b c : List UInt8} {l : List T} : (T.mk k a b c l).kind = k := rfl
theorem T_key {k : Int} {a b c : List UInt8} {l : List T} : (T.mk k a b c l).key = a := rfl
theorem T_value {k : Int} {a b c : List UInt8} {l : List T} : (T.mk k a b c l).value = b := rfl
theorem T_digest {k : Int} {a b c : List UInt8} {l : List T} : (T.mk k a b c l).digest = c := rfl
theorem T_kids {k : Int} {a b c : List UInt8} {l : List T} : (T.mk k a b c l).kids = l := rfl
attribute [go_sem] eT_len eT_sz eT_get eT_app cells_of cells_map cells_take cells_len
mutual
def T.full : T → Bool
 | .mk k _ _ _ l => if 1 < k then false else fullL l
def fullL : List T → Bool
 | [] => true
 | t :: l => t.full && fullL l
end
theorem full_eq (t : T) : t.full = if 1 < t.kind then false else fullL t.kids := by cases t; simp only [T.full]; rfl
mutual
def T.size : T → Nat
 | .mk _ a b c l => 1 + a.length + b.length + c.length + sizeL l
def sizeL : List T → Nat
 | [] => 0
 | t :: l => t.size + sizeL l
end
theorem size_eq (t : T) : t.size = 1 + t.key.length + t.value.length + t.digest.length + sizeL t.kids := by cases t; simp only [T.size]; rfl
theorem sizeL_len : ∀ l : List T, l.length ≤ sizeL l
 | [] => by simp [sizeL]
 | t :: l => by
  have := sizeL_len l
  have := size_eq t
  simp only [List.length_cons, sizeL]
  omega
theorem sizeL_mem : ∀ {l : List T} {t : T}, t ∈ l → t.size ≤ sizeL l
 | k :: l, t, h => by
  rw [sizeL]
  rcases List.mem_cons.mp h with h | h
  ·subst h; omega
  ·have := sizeL_mem h; omega
theorem size_kid {t k : T} (h : k ∈ t.kids) : k.size < t.size := by
 have := sizeL_mem h
 have := size_eq t
 omega
theorem kids_len (t : T) : t.kids.length < t.size := by
 have := sizeL_len t.kids
 have := size_eq t
 omega
mutual
def T.deep : T → Int → Bool
 | .mk k _ _ _ l, b => if (k = 1 ∨ k = 2 ∨ 0 < l.length) ∧ b = 0 then true else deepL l (b - 1)
def deepL : List T → Int → Bool
 | [], _ => false
 | t :: l, b => t.deep b || deepL l b
end
theorem deep_eq (t : T) (b : Int) : t.deep b = if (t.kind = 1 ∨ t.kind = 2 ∨ 0 < t.kids.length) ∧ b = 0 then true else deepL t.kids (b - 1) := by cases t; simp only [T.deep]; rfl
theorem rdeep_loop (t : T) (b : Int) (hb : 0 ≤ b ∧ b ≤ 1048576) (hl : t.kids.length ≤ 1048576) (hk : ∀ k ∈ t.kids, Ev tab G0 n_ref04_Deep [avT k, i64 (b - 1)] [] = some ([bo (k.deep (b - 1))], [])) : ∀ (n i : Nat), n + i = t.kids.length → L_ref04_Deep_0 (s_ref04_Deep_K0 (i64 b) (.ptr 0 0) (i64 i) [some (oT t)]) = if deepL (t.kids.drop i) (b - 1) = false then some (.exit 0, s_ref04_Deep_J0 [none]) else some (.ret, s_ref04_Deep_R (bo true) [none])
 | 0, i, h => by
  rw [List.drop_of_length_le (by omega), L_ref04_Deep_0_eq]
  simp (disch := omega) only [go_sem, seval, i_ref04_Deep_b0, deepL]
 | n + 1, i, h => by
  have ih := rdeep_loop t b hb hl hk n (i + 1) (by omega)
  have h1 := hk _ (getD_mem' (d := .no) (i := i) (by omega))
  rw [drop_step (d := .no) (by omega), L_ref04_Deep_0_eq]
  try simp (disch := omega) only [go_sem, seval] at ih
  generalize hd : t.kids.getD i .no = k at *
  cases hf : k.deep (b - 1)
  ·rw [hf] at h1
   simp (disch := omega) only [go_sem, seval, i_ref04_Deep_b0, hd, h1, hf, ih, deepL, Bool.false_or]
  ·rw [hf] at h1
   simp (disch := omega) only [go_sem, seval, i_ref04_Deep_b0, hd, h1, hf, deepL, Bool.true_or]
theorem ref04_Deep_ev : ∀ (t : T) (b : Int), 0 ≤ b ∧ b ≤ 1048576 → t.size ≤ 1048576 → Ev tab G0 n_ref04_Deep [avT t, i64 b] [] = some ([bo (t.deep b)], []) := T_ind fun t ih b hb hs => by
 have hl := kids_len t
 have e0 : ((0 : Nat) : Int) = 0 := rfl
 refine Ev_run t_ref04_Deep rfl rfl ?_
 by_cases hn : (t.kind = 1 ∨ t.kind = 2 ∨ 0 < t.kids.length) ∧ b = 0
 ·obtain ⟨hn, rfl⟩ := hn
  simp (maxSteps := 1000000) (disch := first | omega | (simp only [lens, List.length_map]; omega)) only [go_sem, seval, i_ref04_Deep, deep_eq, hn]
  (repeat' split) <;> first | rfl | (exfalso; omega) | (simp_all; done) | (simp_all; omega)
 ·have hk : ∀ k ∈ t.kids, Ev tab G0 n_ref04_Deep [avT k, i64 (b - 1)] [] = some ([bo (k.deep (b - 1))], []) := fun k hk => by
   have := size_kid hk
   have := List.length_pos_of_mem hk
   exact ih k hk (b - 1) (by omega) (by omega)
  have h0 := rdeep_loop t b hb (by omega) hk t.kids.length 0 (by omega)
  rw [List.drop_zero] at h0
  try simp (maxSteps := 1000000) (disch := first | omega | (simp only [lens, List.length_map]; omega)) only [go_sem, seval, e0] at h0
  cases hf : deepL t.kids (b - 1)
  ·simp only [hf, if_true] at h0
   simp (maxSteps := 1000000) (disch := first | omega | (simp only [lens, List.length_map]; omega)) only [go_sem, seval, i_ref04_Deep, h0, deep_eq, hf]
   (repeat' split) <;> first | rfl | (exfalso; omega) | (simp_all; done) | (simp_all; omega)
  ·simp only [hf, Bool.true_eq_false, if_false] at h0
   simp (maxSteps := 1000000) (disch := first | omega | (simp only [lens, List.length_map]; omega)) only [go_sem, seval, i_ref04_Deep, h0, deep_eq, hf]
   (repeat' split) <;> first | rfl | (exfalso; omega) | (simp_all; done) | (simp_all; omega)
end Go.Proofs.Ytdgfbfkjdflabaa
namespace Go.Proofs.Ytdgfbfkjdflabaa
open Go.Ev
def okT (t : T) : Prop := (t.kind = 0 ∧ t.key.length = 0 ∧ t.value.length = 0 ∧ t.digest.length = 0 ∧ t.kids.length = 0) ∨ (t.kind = 1 ∧ t.key.length ≤ 80 ∧ t.value.length ≤ 1024 ∧ t.digest.length = 0 ∧ t.kids.length = 2) ∨ (t.kind = 2 ∧ t.key.length ≤ 80 ∧ t.value.length = 0 ∧ t.kids.length = 2) ∨ (t.kind = 3 ∧ t.key.length = 0 ∧ t.value.length = 0 ∧ t.kids.length = 0)
instance (t : T) : Decidable (okT t) := by unfold okT; infer_instance
mutual
def T.formed : T → Bool
 | .mk k a b c l => decide (okT (.mk k a b c l)) && formedL l
def formedL : List T → Bool
 | [] => true
 | t :: l => t.formed && formedL l
end
theorem formed_eq (t : T) : t.formed = (decide (okT t) && formedL t.kids) := by cases t; simp only [T.formed]; rfl
theorem formed_no (t : T) (hs : t.size ≤ 1048576) : ∀ i : Nat, L_ref04_Formed_0 (s_ref04_Formed_K0 (.ptr 0 0) (i64 t.kids.length) (bo false) (i64 i) [some (oT t)]) = some (.exit 1, s_ref04_Formed_J1 (bo false) [none]) := fun i => by
 rw [L_ref04_Formed_0_eq]
 have hl := kids_len t
 by_cases h : i < t.kids.length
 ·simp (disch := omega) only [go_sem, seval, i_ref04_Formed_b0]
 ·simp (disch := omega) only [go_sem, seval, i_ref04_Formed_b0]
theorem formed_loop (t : T) (hs : t.size ≤ 1048576) (hk : ∀ k ∈ t.kids, Ev tab G0 n_ref04_Formed [avT k] [] = some ([bo k.formed], [])) : ∀ (n i : Nat), n + i = t.kids.length → L_ref04_Formed_0 (s_ref04_Formed_K0 (.ptr 0 0) (i64 t.kids.length) (bo true) (i64 i) [some (oT t)]) = some (.exit 1, s_ref04_Formed_J1 (bo (formedL (t.kids.drop i))) [none])
 | 0, i, h => by
  have hl := kids_len t
  rw [List.drop_of_length_le (by omega), L_ref04_Formed_0_eq]
  simp (disch := omega) only [go_sem, seval, i_ref04_Formed_b0, formedL]
 | n + 1, i, h => by
  have hl := kids_len t
  have ih := formed_loop t hs hk n (i + 1) (by omega)
  have h1 := hk _ (getD_mem' (d := .no) (i := i) (by omega))
  have h2 := formed_no t hs (i + 1)
  rw [drop_step (d := .no) (by omega), L_ref04_Formed_0_eq]
  try simp (disch := omega) only [go_sem, seval] at ih
  try simp (disch := omega) only [go_sem, seval] at h2
  generalize hd : t.kids.getD i .no = k at *
  cases hf : k.formed
  ·rw [hf] at h1
   simp (disch := omega) only [go_sem, seval, i_ref04_Formed_b0, hd, h1, hf, h2, formedL, Bool.false_and]
  ·rw [hf] at h1
   simp (disch := omega) only [go_sem, seval, i_ref04_Formed_b0, hd, h1, hf, ih, formedL, Bool.true_and]
theorem ref04_Formed_ev : ∀ (t : T), t.size ≤ 1048576 → Ev tab G0 n_ref04_Formed [avT t] [] = some ([bo t.formed], []) := T_ind fun t ih hs => by
 have hl := kids_len t
 have hz := size_eq t
 have e0 : ((0 : Nat) : Int) = 0 := rfl
 have hk : ∀ k ∈ t.kids, Ev tab G0 n_ref04_Formed [avT k] [] = some ([bo k.formed], []) := fun k hk => ih k hk (by have := size_kid hk; omega)
 have h0 := formed_loop t hs hk t.kids.length 0 (by omega)
 have h1 := formed_no t hs 0
 rw [List.drop_zero] at h0
 try simp (maxSteps := 1000000) (disch := first | omega | (simp only [lens, List.length_map]; omega)) only [go_sem, seval, e0] at h0
 try simp (maxSteps := 1000000) (disch := first | omega | (simp only [lens, List.length_map]; omega)) only [go_sem, seval, e0] at h1
 have hb : ∀ b : Bool, L_ref04_Formed_0 (s_ref04_Formed_K0 (.ptr 0 0) (i64 t.kids.length) (bo b) (i64 0) [some (oT t)]) = some (.exit 1, s_ref04_Formed_J1 (bo (b && formedL t.kids)) [none]) := fun b => by
  cases b
  ·exact h1
  ·exact h0
 clear h0 h1 hk ih
 refine Ev_run t_ref04_Formed rfl rfl ?_
 rw [formed_eq]
 generalize formedL t.kids = fk at *
 have key : ∀ x : Bool, x = decide (okT t) → (some ([bo (x && fk)], []) : Option (List AV × List Ev.Obj)) = some ([bo (decide (okT t) && fk)], []) := fun x hx => by rw [hx]
 have kf : ¬ okT t → (some ([bo false], []) : Option (List AV × List Ev.Obj)) = some ([bo (decide (okT t) && fk)], []) := fun hn => by rw [decide_eq_false hn]; rfl
 by_cases k0 : t.kind = 0
 ·simp (maxSteps := 1000000) (disch := first | omega | (simp only [lens, List.length_map]; omega)) only [go_sem, seval, i_ref04_Formed, hb, Bool.false_and]
  (repeat' split) <;> first | exact kf (by unfold okT; omega) | exact key _ (decide_eq_decide.mpr (by unfold okT; omega))
 ·by_cases k1 : t.kind = 1
  ·simp (maxSteps := 1000000) (disch := first | omega | (simp only [lens, List.length_map]; omega)) only [go_sem, seval, i_ref04_Formed, hb, Bool.false_and]
   (repeat' split) <;> first | exact kf (by unfold okT; omega) | exact key _ (decide_eq_decide.mpr (by unfold okT; omega))
  ·by_cases k2 : t.kind = 2
   ·simp (maxSteps := 1000000) (disch := first | omega | (simp only [lens, List.length_map]; omega)) only [go_sem, seval, i_ref04_Formed, hb, Bool.false_and]
    (repeat' split) <;> first | exact kf (by unfold okT; omega) | exact key _ (decide_eq_decide.mpr (by unfold okT; omega))
   ·by_cases k3 : t.kind = 3
    ·simp (maxSteps := 1000000) (disch := first | omega | (simp only [lens, List.length_map]; omega)) only [go_sem, seval, i_ref04_Formed, hb, Bool.false_and]
     (repeat' split) <;> first | exact kf (by unfold okT; omega) | exact key _ (decide_eq_decide.mpr (by unfold okT; omega))
    ·simp (maxSteps := 1000000) (disch := first | omega | (simp only [lens, List.length_map]; omega)) only [go_sem, seval, i_ref04_Formed, hb, Bool.false_and]
     (repeat' split) <;> first | exact kf (by unfold okT; omega) | exact key _ (decide_eq_decide.mpr (by unfold okT; omega))
end Go.Proofs.Ytdgfbfkjdflabaa
namespace Go.Proofs.Ytdgfbfkjdflabaa
open Go.Ev
theorem deepL_any (l : List T) (b : Int) : deepL l b = l.any fun k => k.deep b := by
 induction l with
 | nil => rfl
 | cons t l ih => simp only [deepL, List.any_cons, ih]
theorem formedL_any (l : List T) : formedL l = !(l.any fun k => !k.formed) := by
 induction l with
 | nil => rfl
 | cons t l ih => simp only [formedL, List.any_cons, ih, Bool.not_or, Bool.not_not]
theorem idxA (f : Nat) (hf : (f < 1000000) = True) (hc : ∀ l, cArgs tab f l = canonA [] l) (p : T → Bool) (l : List T) (hl : l.length ≤ 1048576) (hk : ∀ k ∈ l, Ev tab G0 f [avT k] [] = some ([bo (p k)], [])) : ∀ (n i : Nat), n + i = l.length →
  ((l.drop i).any p = false → L_slices_IndexFunc_sl_api_Tree_api_Tree_0 (s_slices_IndexFunc_sl_api_Tree_api_Tree_K0 (.sl true (eT l)) (.clos f []) (i64 l.length) (i64 i) []) = some (.exit 0, s_slices_IndexFunc_sl_api_Tree_api_Tree_J0 [])) ∧
  ((l.drop i).any p = true → ∃ j : Nat, L_slices_IndexFunc_sl_api_Tree_api_Tree_0 (s_slices_IndexFunc_sl_api_Tree_api_Tree_K0 (.sl true (eT l)) (.clos f []) (i64 l.length) (i64 i) []) = some (.ret, s_slices_IndexFunc_sl_api_Tree_api_Tree_R (i64 j) []))
 | 0, i, h => by
  rw [List.drop_of_length_le (by omega)]
  refine ⟨fun _ => ?_, fun h => by simp at h⟩
  rw [L_slices_IndexFunc_sl_api_Tree_api_Tree_0_eq]
  simp (disch := omega) only [go_sem, seval, i_slices_IndexFunc_sl_api_Tree_api_Tree_b0]
 | n + 1, i, h => by
  obtain ⟨ih1, ih2⟩ := idxA f hf hc p l hl hk n (i + 1) (by omega)
  have h1 := hk _ (getD_mem' (d := .no) (i := i) (by omega))
  rw [drop_step (d := .no) (by omega), List.any_cons]
  generalize hd : l.getD i .no = k at *
  cases hp : p k
  ·rw [hp] at h1
   simp only [Bool.false_or]
   refine ⟨fun hn => ?_, fun hn => ?_⟩
   ·have ih := ih1 hn
    try simp (disch := omega) only [go_sem, seval] at ih
    rw [L_slices_IndexFunc_sl_api_Tree_api_Tree_0_eq]
    simp (disch := omega) only [go_sem, seval, i_slices_IndexFunc_sl_api_Tree_api_Tree_b0, hf, hc, hd, h1, ih]
   ·obtain ⟨j, ih⟩ := ih2 hn
    refine ⟨j, ?_⟩
    try simp (disch := omega) only [go_sem, seval] at ih
    rw [L_slices_IndexFunc_sl_api_Tree_api_Tree_0_eq]
    simp (disch := omega) only [go_sem, seval, i_slices_IndexFunc_sl_api_Tree_api_Tree_b0, hf, hc, hd, h1, ih]
  ·rw [hp] at h1
   simp only [Bool.true_or]
   refine ⟨fun hn => by simp at hn, fun _ => ⟨i, ?_⟩⟩
   rw [L_slices_IndexFunc_sl_api_Tree_api_Tree_0_eq]
   simp (disch := omega) only [go_sem, seval, i_slices_IndexFunc_sl_api_Tree_api_Tree_b0, hf, hc, hd, h1]
theorem ContainsA (f : Nat) (hf : (f < 1000000) = True) (hc : ∀ l, cArgs tab f l = canonA [] l) (p : T → Bool) (l : List T) (hl : l.length ≤ 1048576) (hk : ∀ k ∈ l, Ev tab G0 f [avT k] [] = some ([bo (p k)], [])) : Ev tab G0 n_slices_ContainsFunc_sl_api_Tree_api_Tree [.sl true (eT l), .clos f []] [] = some ([bo (l.any p)], []) := by
 obtain ⟨h1, h2⟩ := idxA f hf hc p l hl hk l.length 0 (by omega)
 have e0 : ((0 : Nat) : Int) = 0 := rfl
 rw [List.drop_zero] at h1 h2
 cases hp : l.any p
 ·have h := h1 hp
  rw [e0] at h
  have hi : Ev tab G0 n_slices_IndexFunc_sl_api_Tree_api_Tree [.sl true (eT l), .clos f []] [] = some ([i64 (-1)], []) := by
   refine Ev_run t_slices_IndexFunc_sl_api_Tree_api_Tree rfl rfl ?_
   simp (disch := omega) only [go_sem, seval, i_slices_IndexFunc_sl_api_Tree_api_Tree, h]
  refine Ev_run t_slices_ContainsFunc_sl_api_Tree_api_Tree rfl rfl ?_
  simp (disch := omega) only [go_sem, seval, i_slices_ContainsFunc_sl_api_Tree_api_Tree, hi]
 ·obtain ⟨j, h⟩ := h2 hp
  rw [e0] at h
  have hi : Ev tab G0 n_slices_IndexFunc_sl_api_Tree_api_Tree [.sl true (eT l), .clos f []] [] = some ([i64 j], []) := by
   refine Ev_run t_slices_IndexFunc_sl_api_Tree_api_Tree rfl rfl ?_
   simp (disch := omega) only [go_sem, seval, i_slices_IndexFunc_sl_api_Tree_api_Tree, h]
  refine Ev_run t_slices_ContainsFunc_sl_api_Tree_api_Tree rfl rfl ?_
  simp (disch := omega) only [go_sem, seval, i_slices_ContainsFunc_sl_api_Tree_api_Tree, hi]
theorem idxB (f : Nat) (hf : (f < 1000000) = True) (hc : ∀ l, cArgs tab f l = canonA [] l) (b : Int) (p : T → Bool) (l : List T) (hl : l.length ≤ 1048576) (hk : ∀ k ∈ l, Ev tab G0 f [avT k, .ptr 0 0] [.var [i64 b]] = some ([bo (p k)], [.var [i64 b]])) : ∀ (n i : Nat), n + i = l.length →
  ((l.drop i).any p = false → L_slices_IndexFunc_sl_api_Tree_api_Tree_0 (s_slices_IndexFunc_sl_api_Tree_api_Tree_K0 (.sl true (eT l)) (.clos f [.ptr 0 0]) (i64 l.length) (i64 i) [some (.var [i64 b])]) = some (.exit 0, s_slices_IndexFunc_sl_api_Tree_api_Tree_J0 [some (.var [i64 b])])) ∧
  ((l.drop i).any p = true → ∃ j : Nat, L_slices_IndexFunc_sl_api_Tree_api_Tree_0 (s_slices_IndexFunc_sl_api_Tree_api_Tree_K0 (.sl true (eT l)) (.clos f [.ptr 0 0]) (i64 l.length) (i64 i) [some (.var [i64 b])]) = some (.ret, s_slices_IndexFunc_sl_api_Tree_api_Tree_R (i64 j) [some (.var [i64 b])]))
 | 0, i, h => by
  rw [List.drop_of_length_le (by omega)]
  refine ⟨fun _ => ?_, fun h => by simp at h⟩
  rw [L_slices_IndexFunc_sl_api_Tree_api_Tree_0_eq]
  simp (disch := omega) only [go_sem, seval, i_slices_IndexFunc_sl_api_Tree_api_Tree_b0]
 | n + 1, i, h => by
  obtain ⟨ih1, ih2⟩ := idxB f hf hc b p l hl hk n (i + 1) (by omega)
  have h1 := hk _ (getD_mem' (d := .no) (i := i) (by omega))
  rw [drop_step (d := .no) (by omega), List.any_cons]
  generalize hd : l.getD i .no = k at *
  cases hp : p k
  ·rw [hp] at h1
   simp only [Bool.false_or]
   refine ⟨fun hn => ?_, fun hn => ?_⟩
   ·have ih := ih1 hn
    try simp (disch := omega) only [go_sem, seval] at ih
    rw [L_slices_IndexFunc_sl_api_Tree_api_Tree_0_eq]
    simp (disch := omega) only [go_sem, seval, i_slices_IndexFunc_sl_api_Tree_api_Tree_b0, hf, hc, hd, h1, ih]
   ·obtain ⟨j, ih⟩ := ih2 hn
    refine ⟨j, ?_⟩
    try simp (disch := omega) only [go_sem, seval] at ih
    rw [L_slices_IndexFunc_sl_api_Tree_api_Tree_0_eq]
    simp (disch := omega) only [go_sem, seval, i_slices_IndexFunc_sl_api_Tree_api_Tree_b0, hf, hc, hd, h1, ih]
  ·rw [hp] at h1
   simp only [Bool.true_or]
   refine ⟨fun hn => by simp at hn, fun _ => ⟨i, ?_⟩⟩
   rw [L_slices_IndexFunc_sl_api_Tree_api_Tree_0_eq]
   simp (disch := omega) only [go_sem, seval, i_slices_IndexFunc_sl_api_Tree_api_Tree_b0, hf, hc, hd, h1]
theorem ContainsB (f : Nat) (hf : (f < 1000000) = True) (hc : ∀ l, cArgs tab f l = canonA [] l) (b : Int) (p : T → Bool) (l : List T) (hl : l.length ≤ 1048576) (hk : ∀ k ∈ l, Ev tab G0 f [avT k, .ptr 0 0] [.var [i64 b]] = some ([bo (p k)], [.var [i64 b]])) : Ev tab G0 n_slices_ContainsFunc_sl_api_Tree_api_Tree [.sl true (eT l), .clos f [.ptr 0 0]] [.var [i64 b]] = some ([bo (l.any p)], [.var [i64 b]]) := by
 obtain ⟨h1, h2⟩ := idxB f hf hc b p l hl hk l.length 0 (by omega)
 have e0 : ((0 : Nat) : Int) = 0 := rfl
 rw [List.drop_zero] at h1 h2
 cases hp : l.any p
 ·have h := h1 hp
  rw [e0] at h
  have hi : Ev tab G0 n_slices_IndexFunc_sl_api_Tree_api_Tree [.sl true (eT l), .clos f [.ptr 0 0]] [.var [i64 b]] = some ([i64 (-1)], [.var [i64 b]]) := by
   refine Ev_run t_slices_IndexFunc_sl_api_Tree_api_Tree rfl rfl ?_
   simp (disch := omega) only [go_sem, seval, i_slices_IndexFunc_sl_api_Tree_api_Tree, h]
  refine Ev_run t_slices_ContainsFunc_sl_api_Tree_api_Tree rfl rfl ?_
  simp (disch := omega) only [go_sem, seval, i_slices_ContainsFunc_sl_api_Tree_api_Tree, hi]
 ·obtain ⟨j, h⟩ := h2 hp
  rw [e0] at h
  have hi : Ev tab G0 n_slices_IndexFunc_sl_api_Tree_api_Tree [.sl true (eT l), .clos f [.ptr 0 0]] [.var [i64 b]] = some ([i64 j], [.var [i64 b]]) := by
   refine Ev_run t_slices_IndexFunc_sl_api_Tree_api_Tree rfl rfl ?_
   simp (disch := omega) only [go_sem, seval, i_slices_IndexFunc_sl_api_Tree_api_Tree, h]
  refine Ev_run t_slices_ContainsFunc_sl_api_Tree_api_Tree rfl rfl ?_
  simp (disch := omega) only [go_sem, seval, i_slices_ContainsFunc_sl_api_Tree_api_Tree, hi]
theorem tree_deep_ev : ∀ (t : T) (b : Int), 0 ≤ b ∧ b ≤ 1048576 → t.size ≤ 1048576 → Ev tab G0 n_tree_deep [avT t, i64 b] [] = some ([bo (t.deep b)], []) := T_ind fun t ih b hb hs => by
 have hl := kids_len t
 rw [deep_eq]
 by_cases hn : (t.kind = 1 ∨ t.kind = 2 ∨ 0 < t.kids.length) ∧ b = 0
 ·rw [if_pos hn]
  obtain ⟨hn, rfl⟩ := hn
  refine Ev_run t_tree_deep rfl rfl ?_
  by_cases k1 : t.kind = 1
  ·simp (disch := omega) only [go_sem, seval, i_tree_deep]
  ·by_cases k2 : t.kind = 2
   ·simp (disch := omega) only [go_sem, seval, i_tree_deep]
   ·have k3 : 0 < t.kids.length := by omega
    simp (disch := omega) only [go_sem, seval, i_tree_deep]
 ·rw [if_neg hn, deepL_any]
  have hk : ∀ k ∈ t.kids, Ev tab G0 n_tree_deep_1 [avT k, .ptr 0 0] [.var [i64 b]] = some ([bo (k.deep (b - 1))], [.var [i64 b]]) := fun k hk => by
   have := size_kid hk
   have hp := List.length_pos_of_mem hk
   have h1 := ih k hk (b - 1) (by omega) (by omega)
   refine Ev_run t_tree_deep_1 rfl rfl ?_
   simp (disch := omega) only [go_sem, seval, i_tree_deep_1, h1]
  have h1 := ContainsB n_tree_deep_1 lt_tree_deep_1 (fun _ => ca_tree_deep_1 _) b (fun k => k.deep (b - 1)) t.kids (by omega) hk
  generalize (t.kids.any fun k => k.deep (b - 1)) = x at *
  refine Ev_run t_tree_deep rfl rfl ?_
  by_cases k1 : t.kind = 1
  ·have hb1 : ¬ b < 1 := by omega
   simp (disch := omega) only [go_sem, seval, i_tree_deep, h1]
  ·by_cases k2 : t.kind = 2
   ·have hb1 : ¬ b < 1 := by omega
    simp (disch := omega) only [go_sem, seval, i_tree_deep, h1]
   ·by_cases k3 : 0 < t.kids.length
    ·have hb1 : ¬ b < 1 := by omega
     simp (disch := omega) only [go_sem, seval, i_tree_deep, h1]
    ·simp (disch := omega) only [go_sem, seval, i_tree_deep, h1]
theorem tree_formed_ev : ∀ (t : T), t.size ≤ 1048576 → Ev tab G0 n_tree_formed [avT t] [] = some ([bo t.formed], []) := T_ind fun t ih hs => by
 have hl := kids_len t
 have hz := size_eq t
 have hk : ∀ k ∈ t.kids, Ev tab G0 n_tree_formed_1 [avT k] [] = some ([bo (!k.formed)], []) := fun k hk => by
  have := size_kid hk
  have h1 := ih k hk (by omega)
  refine Ev_run t_tree_formed_1 rfl rfl ?_
  simp (disch := omega) only [go_sem, seval, i_tree_formed_1, h1]
 have h1 := ContainsA n_tree_formed_1 lt_tree_formed_1 (fun _ => ca_tree_formed_1 _) (fun k => !k.formed) t.kids (by omega) hk
 rw [formed_eq, formedL_any]
 generalize (t.kids.any fun k => !k.formed) = x at *
 by_cases hok : okT t
 ·rw [decide_eq_true hok, Bool.true_and]
  refine Ev_run t_tree_formed rfl rfl ?_
  rcases hok with ⟨k0, k1, k2, k3, k4⟩ | ⟨k0, k1, k2, k3, k4⟩ | ⟨k0, k1, k2, k3⟩ | ⟨k0, k1, k2, k3⟩
  ·simp (disch := omega) only [go_sem, seval, i_tree_formed, h1]
  ·simp (disch := omega) only [go_sem, seval, i_tree_formed, h1]
  ·simp (disch := omega) only [go_sem, seval, i_tree_formed, h1]
  ·simp (disch := omega) only [go_sem, seval, i_tree_formed, h1]
 ·rw [decide_eq_false hok, Bool.false_and]
  unfold okT at hok
  refine Ev_run t_tree_formed rfl rfl ?_
  by_cases k0 : t.kind = 0
  ·simp (disch := omega) only [go_sem, seval, i_tree_formed]
  ·by_cases k1 : t.kind = 1
   ·by_cases c1 : t.key.length ≤ 80
    ·by_cases c2 : t.value.length ≤ 1024
     ·by_cases c3 : t.digest.length = 0
      ·simp (disch := omega) only [go_sem, seval, i_tree_formed]
      ·simp (disch := omega) only [go_sem, seval, i_tree_formed]
     ·simp (disch := omega) only [go_sem, seval, i_tree_formed]
    ·simp (disch := omega) only [go_sem, seval, i_tree_formed]
   ·by_cases k2 : t.kind = 2
    ·by_cases c1 : t.key.length ≤ 80
     ·by_cases c2 : t.value.length = 0
      ·simp (disch := omega) only [go_sem, seval, i_tree_formed]
      ·simp (disch := omega) only [go_sem, seval, i_tree_formed]
     ·simp (disch := omega) only [go_sem, seval, i_tree_formed]
    ·by_cases k3 : t.kind = 3
     ·simp (disch := omega) only [go_sem, seval, i_tree_formed]
     ·simp (disch := omega) only [go_sem, seval, i_tree_formed]
def T.chk (t : T) : Int := if t.deep 64 = true then 5 else if t.formed = true then 0 else 3
theorem chk_formed {t : T} (h : t.chk = 0) : t.formed = true := by
 unfold T.chk at h
 split at h
 ·cases h
 ·split at h
  ·assumption
  ·cases h
theorem tree_Check_ev (t : T) (hs : t.size ≤ 1048576) : Ev tab G0 n_tree_Check [avT t] [] = some ([errV t.chk], []) := by
 have h1 := tree_deep_ev t 64 (by omega) hs
 have h2 := tree_formed_ev t hs
 refine Ev_run t_tree_Check rfl rfl ?_
 rw [T.chk, errV]
 cases hd : t.deep 64
 ·rw [hd] at h1
  cases hf : t.formed
  ·rw [hf] at h2
   simp (disch := omega) only [go_sem, seval, i_tree_Check, h1, h2]
  ·rw [hf] at h2
   simp (disch := omega) only [go_sem, seval, i_tree_Check, h1, h2]
 ·rw [hd] at h1
  simp (disch := omega) only [go_sem, seval, i_tree_Check, h1]
theorem ref04_Check_ev (t : T) (hs : t.size ≤ 1048576) : Ev tab G0 n_ref04_Check [avT t] [] = some ([i64 t.chk], []) := by
 have h1 := ref04_Deep_ev t 64 (by omega) hs
 have h2 := ref04_Formed_ev t hs
 refine Ev_run t_ref04_Check rfl rfl ?_
 rw [T.chk]
 cases hd : t.deep 64
 ·rw [hd] at h1
  cases hf : t.formed
  ·rw [hf] at h2
   simp (disch := omega) only [go_sem, seval, i_ref04_Check, h1, h2]
  ·rw [hf] at h2
   simp (disch := omega) only [go_sem, seval, i_ref04_Check, h1, h2]
 ·rw [hd] at h1
  simp (disch := omega) only [go_sem, seval, i_ref04_Check, h1]
theorem formed_kid {t k : T} (h : t.formed = true) (hk : k ∈ t.kids) : k.formed = true := by
 rw [formed_eq, formedL_any] at h
 simp only [Bool.and_eq_true, Bool.not_eq_true', List.any_eq_false, Bool.not_eq_true] at h
 simpa using h.2 k hk
end Go.Proofs.Ytdgfbfkjdflabaa
namespace Go.Proofs.Ytdgfbfkjdflabaa
open Go.Ev
mutual
def T.list : T → List T
 | .mk k a b c l => match listL l with
  | x :: y :: _ => x ++ .mk k a b c l :: y
  | _ => []
def listL : List T → List (List T)
 | [] => []
 | t :: l => t.list :: listL l
end
theorem two_of {t : T} (h : t.formed = true) : t.kids = [] ∨ ∃ l r, t.kids = [l, r] ∧ l.formed = true ∧ r.formed = true := by
 have h1 := h
 rw [formed_eq] at h1
 simp only [Bool.and_eq_true, decide_eq_true_eq] at h1
 have h2 := h1.1
 have hlen : t.kids.length = 0 ∨ t.kids.length = 2 := by unfold okT at h2; omega
 rcases hlen with hl | hl
 ·exact .inl (List.eq_nil_of_length_eq_zero hl)
 ·match hk : t.kids, hl with
  | [l, r], _ => exact .inr ⟨l, r, rfl, formed_kid h (by rw [hk]; simp), formed_kid h (by rw [hk]; simp)⟩
theorem F_ind {P : T → Prop} (h0 : ∀ t : T, t.formed = true → t.kids = [] → P t) (h2 : ∀ t l r : T, t.formed = true → t.kids = [l, r] → l.formed = true → r.formed = true → P l → P r → P t) : ∀ t : T, t.formed = true → P t := T_ind fun t ih hf => by
 rcases two_of hf with h | ⟨l, r, h, hl, hr⟩
 ·exact h0 t hf h
 ·exact h2 t l r hf h hl hr (ih l (by rw [h]; simp) hl) (ih r (by rw [h]; simp) hr)
theorem size_two {t l r : T} (h : t.kids = [l, r]) : t.size = 1 + t.key.length + t.value.length + t.digest.length + (l.size + r.size) := by
 rw [size_eq, h]; simp only [sizeL]; omega
end Go.Proofs.Ytdgfbfkjdflabaa
namespace Go.Proofs.Ytdgfbfkjdflabaa
open Go.Ev
mutual
def T.depth : T → Int
 | .mk _ _ _ _ l => match depthL l with
  | x :: y :: _ => max x y + 1
  | _ => 0
def depthL : List T → List Int
 | [] => []
 | t :: l => t.depth :: depthL l
end
mutual
def T.bal : T → Bool
 | .mk _ _ _ _ l => match balL l, depthL l with
  | p :: q :: _, x :: y :: _ => p && q && decide (x - y ≤ 1) && decide (y - x ≤ 1)
  | _, _ => true
def balL : List T → List Bool
 | [] => []
 | t :: l => t.bal :: balL l
end
mutual
def T.light : T → Int → Int → Int
 | .mk k a b c l, left, d => if d = 0 ∨ left - 1 < 0 ∨ left - 1 < l.length ∨ 3000 < a.length ∨ 3000 < b.length ∨ 3000 < c.length then -1 else lightL l (left - 1) (d - 1)
def lightL : List T → Int → Int → Int
 | [], left, _ => left
 | t :: l, left, d => if t.light left d < 0 then -1 else lightL l (t.light left d) d
end
theorem light_eq (t : T) (left d : Int) : t.light left d = if d = 0 ∨ left - 1 < 0 ∨ left - 1 < t.kids.length ∨ 3000 < t.key.length ∨ 3000 < t.value.length ∨ 3000 < t.digest.length then -1 else lightL t.kids (left - 1) (d - 1) := by cases t; simp only [T.light]; rfl
mutual
theorem light_le : ∀ (t : T) (left d : Int), 0 ≤ left → -1 ≤ t.light left d ∧ t.light left d ≤ left
 | .mk k a b c l, left, d, h => by
  simp only [T.light]
  split
  ·omega
  ·have := lightL_le l (left - 1) (d - 1) (by omega)
   omega
theorem lightL_le : ∀ (l : List T) (left d : Int), 0 ≤ left → -1 ≤ lightL l left d ∧ lightL l left d ≤ left
 | [], left, d, h => by simp only [lightL]; omega
 | t :: l, left, d, h => by
  simp only [lightL]
  have h1 := light_le t left d h
  split
  ·omega
  ·have := lightL_le l (t.light left d) d (by omega)
   omega
end
theorem light_loop (t : T) (d : Int) (hd : 1 ≤ d ∧ d ≤ 1000) (hl : t.kids.length ≤ 1048576) (hk : ∀ k ∈ t.kids, ∀ left : Int, 0 ≤ left ∧ left ≤ 1000 → Ev tab G0 n_ref04_Light [avT k, i64 left, i64 (d - 1)] [] = some ([i64 (k.light left (d - 1))], [])) : ∀ (n i : Nat) (left : Int), n + i = t.kids.length → 0 ≤ left ∧ left ≤ 1000 → L_ref04_Light_0 (s_ref04_Light_K0 (i64 left) (i64 d) (.ptr 0 0) (i64 i) [some (oT t)]) = if 0 ≤ lightL (t.kids.drop i) left (d - 1) then some (.exit 0, s_ref04_Light_J0 (i64 (lightL (t.kids.drop i) left (d - 1))) [none]) else some (.ret, s_ref04_Light_R (i64 (-1)) [none])
 | 0, i, left, h, hle => by
  rw [List.drop_of_length_le (by omega), L_ref04_Light_0_eq, lightL, if_pos hle.1]
  simp (disch := omega) only [go_sem, seval, i_ref04_Light_b0]
 | n + 1, i, left, h, hle => by
  have h1 := hk _ (getD_mem' (d := .no) (i := i) (by omega)) left hle
  have hb := light_le (t.kids.getD i .no) left (d - 1) hle.1
  rw [drop_step (d := .no) (by omega), L_ref04_Light_0_eq, lightL]
  by_cases hf : (t.kids.getD i .no).light left (d - 1) < 0
  ·rw [if_pos hf, if_neg (by omega)]
   generalize hdd : t.kids.getD i .no = k at *
   generalize k.light left (d - 1) = x at *
   simp (disch := omega) only [go_sem, seval, i_ref04_Light_b0, hdd, h1]
  ·have ih := light_loop t d hd hl hk n (i + 1) ((t.kids.getD i .no).light left (d - 1)) (by omega) (by omega)
   rw [if_neg hf]
   generalize hdd : t.kids.getD i .no = k at *
   generalize k.light left (d - 1) = x at *
   generalize lightL (t.kids.drop (i + 1)) x (d - 1) = z at *
   try simp (disch := omega) only [go_sem, seval] at ih
   simp (disch := omega) only [go_sem, seval, i_ref04_Light_b0, hdd, h1, ih]
theorem ref04_Light_ev : ∀ (t : T) (left d : Int), 0 ≤ left ∧ left ≤ 1000 → 0 ≤ d ∧ d ≤ 1000 → t.size ≤ 1048576 → Ev tab G0 n_ref04_Light [avT t, i64 left, i64 d] [] = some ([i64 (t.light left d)], []) := T_ind fun t ih left d hle hd hs => by
 have hl := kids_len t
 have hz := size_eq t
 rw [light_eq]
 by_cases hc : d = 0 ∨ left - 1 < 0 ∨ left - 1 < t.kids.length ∨ 3000 < t.key.length ∨ 3000 < t.value.length ∨ 3000 < t.digest.length
 ·rw [if_pos hc]
  refine Ev_run t_ref04_Light rfl rfl ?_
  by_cases c1 : d = 0
  ·simp (disch := omega) only [go_sem, seval, i_ref04_Light]
  ·by_cases c2 : left - 1 < 0
   ·simp (disch := omega) only [go_sem, seval, i_ref04_Light]
   ·by_cases c3 : left - 1 < t.kids.length
    ·simp (disch := omega) only [go_sem, seval, i_ref04_Light]
    ·by_cases c4 : 3000 < t.key.length
     ·simp (disch := omega) only [go_sem, seval, i_ref04_Light]
     ·by_cases c5 : 3000 < t.value.length
      ·simp (disch := omega) only [go_sem, seval, i_ref04_Light]
      ·simp (disch := omega) only [go_sem, seval, i_ref04_Light]
 ·rw [if_neg hc]
  have hk : ∀ k ∈ t.kids, ∀ left : Int, 0 ≤ left ∧ left ≤ 1000 → Ev tab G0 n_ref04_Light [avT k, i64 left, i64 (d - 1)] [] = some ([i64 (k.light left (d - 1))], []) := fun k hk left hle => ih k hk left (d - 1) hle (by omega) (by have := size_kid hk; omega)
  have h0 := light_loop t d (by omega) (by omega) hk t.kids.length 0 (left - 1) (by omega) (by omega)
  have e0 : ((0 : Nat) : Int) = 0 := rfl
  have hb := lightL_le t.kids (left - 1) (d - 1) (by omega)
  rw [List.drop_zero] at h0
  generalize lightL t.kids (left - 1) (d - 1) = z at *
  refine Ev_run t_ref04_Light rfl rfl ?_
  by_cases hz : 0 ≤ z
  ·rw [if_pos hz] at h0
   try simp (disch := omega) only [go_sem, seval, e0] at h0
   simp (disch := omega) only [go_sem, seval, i_ref04_Light, h0]
  ·rw [if_neg hz] at h0
   have : z = -1 := by omega
   subst this
   try simp (disch := omega) only [go_sem, seval, e0] at h0
   simp (disch := omega) only [go_sem, seval, i_ref04_Light, h0]
mutual
def T.same : T → T → Bool
 | .mk k a b c l, .mk k' a' b' c' l' => decide (k = k') && (a == a') && (b == b') && (c == c') && decide (l.length = l'.length) && sameL l l'
def sameL : List T → List T → Bool
 | [], [] => true
 | t :: l, u :: m => t.same u && sameL l m
 | _, _ => true
end
mutual
theorem same_refl : ∀ t : T, t.same t = true
 | .mk k a b c l => by
  have := sameL_refl l
  simp [T.same, this]
theorem sameL_refl : ∀ l : List T, sameL l l = true
 | [] => rfl
 | t :: l => by
  have h1 := same_refl t
  have h2 := sameL_refl l
  simp only [sameL, h1, h2, Bool.and_self]
end
mutual
theorem same_imp : ∀ t u : T, t.same u = true → t = u
 | .mk k a b c l, .mk k' a' b' c' l', h => by
  simp only [T.same, Bool.and_eq_true, decide_eq_true_eq, beq_iff_eq] at h
  obtain ⟨⟨⟨⟨⟨rfl, rfl⟩, rfl⟩, rfl⟩, hl⟩, hs⟩ := h
  rw [sameL_imp l l' hl hs]
theorem sameL_imp : ∀ l m : List T, l.length = m.length → sameL l m = true → l = m
 | [], [], _, _ => rfl
 | [], _ :: _, h, _ => by simp at h
 | _ :: _, [], h, _ => by simp at h
 | t :: l, u :: m, h, hs => by
  simp only [sameL, Bool.and_eq_true] at hs
  rw [same_imp t u hs.1, sameL_imp l m (by simpa using h) hs.2]
end
end Go.Proofs.Ytdgfbfkjdflabaa
namespace Go.Proofs.Ytdgfbfkjdflabaa
open Go.Ev
mutual
def T.long : T → Bool
 | .mk _ _ _ c l => decide (32 < c.length) || longL l
def longL : List T → Bool
 | [] => false
 | t :: l => t.long || longL l
end
theorem long_eq (t : T) : t.long = (decide (32 < t.digest.length) || longL t.kids) := by cases t; simp only [T.long]; rfl
theorem longL_cons (t : T) (l : List T) : longL (t :: l) = (t.long || longL l) := by simp only [longL]
theorem longL_nil : longL [] = false := by simp only [longL]
theorem clong_loop (l : List T) (hl : l.length ≤ 1048576) (hk : ∀ k ∈ l, Ev tab G0 n_code_long [avT k] [] = some ([bo k.long], [])) : ∀ (n i : Nat), n + i = l.length → L_code_long_0 (s_code_long_K0 (.sl true (eT l)) (i64 l.length) (i64 i) [none, none]) = if longL (l.drop i) = true then some (.ret, s_code_long_R (bo true) [none, none]) else some (.exit 0, s_code_long_J0 [none, none])
 | 0, i, h => by
  rw [List.drop_of_length_le (by omega), longL_nil, if_neg (by simp), L_code_long_0_eq]
  simp (disch := omega) only [go_sem, seval, i_code_long_b0]
 | n + 1, i, h => by
  have ih := clong_loop l hl hk n (i + 1) (by omega)
  have h1 := hk _ (getD_mem' (d := .no) (i := i) (by omega))
  rw [drop_step (d := .no) (by omega), longL_cons, L_code_long_0_eq]
  generalize longL (l.drop (i + 1)) = z at *
  try simp (disch := omega) only [go_sem, seval] at ih
  generalize hd : l.getD i .no = k at *
  cases hf : k.long
  ·rw [hf] at h1
   rw [Bool.false_or, ← ih]
   simp (disch := omega) only [go_sem, seval, i_code_long_b0, hd, h1]
  ·rw [hf] at h1
   rw [Bool.true_or, if_pos rfl]
   simp (disch := omega) only [go_sem, seval, i_code_long_b0, hd, h1]
theorem code_long_ev : ∀ (t : T), t.size ≤ 1048576 → Ev tab G0 n_code_long [avT t] [] = some ([bo t.long], []) := T_ind fun t ih hs => by
 have hl := kids_len t
 have hz := size_eq t
 have e0 : ((0 : Nat) : Int) = 0 := rfl
 have hk : ∀ k ∈ t.kids, Ev tab G0 n_code_long [avT k] [] = some ([bo k.long], []) := fun k hk => ih k hk (by have := size_kid hk; omega)
 have h0 := clong_loop t.kids (by omega) hk t.kids.length 0 (by omega)
 rw [List.drop_zero, e0] at h0
 rw [long_eq]
 generalize longL t.kids = z at *
 refine Ev_run t_code_long rfl rfl ?_
 by_cases c : 32 < t.digest.length
 ·rw [decide_eq_true c]
  simp (disch := omega) only [go_sem, seval, i_code_long]
 ·rw [decide_eq_false c, Bool.false_or]
  cases z
  ·rw [if_neg (by simp)] at h0
   simp (disch := omega) only [go_sem, seval, i_code_long, h0]
  ·rw [if_pos rfl] at h0
   simp (disch := omega) only [go_sem, seval, i_code_long, h0]
theorem rlong_loop (t : T) (hl : t.kids.length ≤ 1048576) (hk : ∀ k ∈ t.kids, Ev tab G0 n_ref10_long [avT k] [] = some ([bo k.long], [])) : ∀ (n i : Nat), n + i = t.kids.length → L_ref10_long_0 (s_ref10_long_K0 (.ptr 0 0) (i64 i) [some (oT t)]) = if longL (t.kids.drop i) = true then some (.ret, s_ref10_long_R (bo true) [none]) else some (.exit 0, s_ref10_long_J0 [none])
 | 0, i, h => by
  rw [List.drop_of_length_le (by omega), longL_nil, if_neg (by simp), L_ref10_long_0_eq]
  simp (disch := omega) only [go_sem, seval, i_ref10_long_b0]
 | n + 1, i, h => by
  have ih := rlong_loop t hl hk n (i + 1) (by omega)
  have h1 := hk _ (getD_mem' (d := .no) (i := i) (by omega))
  rw [drop_step (d := .no) (by omega), longL_cons, L_ref10_long_0_eq]
  generalize longL (t.kids.drop (i + 1)) = z at *
  try simp (disch := omega) only [go_sem, seval] at ih
  generalize hd : t.kids.getD i .no = k at *
  cases hf : k.long
  ·rw [hf] at h1
   rw [Bool.false_or, ← ih]
   simp (disch := omega) only [go_sem, seval, i_ref10_long_b0, hd, h1]
  ·rw [hf] at h1
   rw [Bool.true_or, if_pos rfl]
   simp (disch := omega) only [go_sem, seval, i_ref10_long_b0, hd, h1]
theorem ref10_long_ev : ∀ (t : T), t.size ≤ 1048576 → Ev tab G0 n_ref10_long [avT t] [] = some ([bo t.long], []) := T_ind fun t ih hs => by
 have hl := kids_len t
 have hz := size_eq t
 have e0 : ((0 : Nat) : Int) = 0 := rfl
 have hk : ∀ k ∈ t.kids, Ev tab G0 n_ref10_long [avT k] [] = some ([bo k.long], []) := fun k hk => ih k hk (by have := size_kid hk; omega)
 have h0 := rlong_loop t (by omega) hk t.kids.length 0 (by omega)
 rw [List.drop_zero, e0] at h0
 rw [long_eq]
 generalize longL t.kids = z at *
 refine Ev_run t_ref10_long rfl rfl ?_
 by_cases c : 32 < t.digest.length
 ·rw [decide_eq_true c]
  simp (disch := omega) only [go_sem, seval, i_ref10_long]
 ·rw [decide_eq_false c, Bool.false_or]
  cases z
  ·rw [if_neg (by simp)] at h0
   simp (disch := omega) only [go_sem, seval, i_ref10_long, h0]
  ·rw [if_pos rfl] at h0
   simp (disch := omega) only [go_sem, seval, i_ref10_long, h0]
def hdB (k : Int) (a b c : List UInt8) : List UInt8 := byt k :: (if k = 1 then byts a ++ byts b else if k = 2 then byts a ++ byts c else if k = 3 then byts c else [])
mutual
def T.wr : T → List UInt8
 | .mk k a b c l => hdB k a b c ++ wrL l
def wrL : List T → List UInt8
 | [] => []
 | t :: l => t.wr ++ wrL l
end
theorem wr_eq (t : T) : t.wr = hdB t.kind t.key t.value t.digest ++ wrL t.kids := by cases t; simp only [T.wr]; rfl
theorem wr_nil {t : T} (h : t.kids = []) : t.wr = hdB t.kind t.key t.value t.digest := by rw [wr_eq, h]; simp only [wrL, List.append_nil]
theorem wr_two {t l r : T} (h : t.kids = [l, r]) : t.wr = hdB t.kind t.key t.value t.digest ++ (l.wr ++ r.wr) := by rw [wr_eq, h]; simp only [wrL, List.append_nil]
theorem hdB_len (k : Int) (a b c : List UInt8) : (hdB k a b c).length ≤ 1 + a.length + b.length + c.length + 18 := by
 have h1 := byts_len a
 have h2 := byts_len b
 have h3 := byts_len c
 unfold hdB
 split
 ·simp only [List.length_cons, List.length_append]; omega
 ·split
  ·simp only [List.length_cons, List.length_append]; omega
  ·split
   ·simp only [List.length_cons]; omega
   ·simp only [List.length_cons, List.length_nil]; omega
theorem wr_len : ∀ t : T, t.formed = true → t.wr.length ≤ 19 * t.size := F_ind
 (fun t _ h => by
  have := hdB_len t.kind t.key t.value t.digest
  have hz := size_eq t
  rw [wr_nil h]
  omega)
 fun t l r _ h _ _ h1 h2 => by
  have := hdB_len t.kind t.key t.value t.digest
  have hz := size_two h
  rw [wr_two h, List.length_append, List.length_append]
  omega
theorem byt_0 : byt 0 = 0 := rfl
abbrev rowB (l : List UInt8) : Ev.Obj := .row ty_uint8 1 true false (eB l)
theorem hd_kind {t : T} (h : t.formed = true) : okT t := by
 rw [formed_eq] at h
 simp only [Bool.and_eq_true, decide_eq_true_eq] at h
 exact h.1
abbrev WrOk (t : T) : Prop := ∀ acc : List UInt8, acc ≠ [] → acc.length + 19 * t.size ≤ 1000000000 → Ev tab G0 n_code_write [.row 0 acc.length, avT t] [rowB acc] = some ([.row 0 (acc ++ t.wr).length], [rowB (acc ++ t.wr), .dead])
theorem cwrite_0 (t : T) (h0 : t.kids = []) (hk : t.kind = 0 ∨ t.kind = 3) : WrOk t := fun acc ha hb => by
 have hz := size_eq t
 rw [wr_nil h0]
 rcases hk with hk | hk
 ·unfold hdB
  rw [hk, if_neg (by omega), if_neg (by omega), if_neg (by omega)]
  refine Ev_run t_code_write rfl rfl ?_
  simp (disch := omega) only [go_sem, seval, i_code_write, h0, hk]
  rw [L_code_write_0_eq]
  simp (disch := omega) only [go_sem, seval, i_code_write_b0]
 ·have h1 := coder_Bytes_ev t.digest (by omega)
  have h2 := byts_len t.digest
  unfold hdB
  rw [hk, if_neg (by omega), if_neg (by omega), if_pos rfl]
  generalize byts t.digest = d at *
  refine Ev_run t_code_write rfl rfl ?_
  simp (disch := omega) only [go_sem, seval, i_code_write, h0, hk, h1]
  rw [L_code_write_0_eq]
  simp (disch := omega) only [go_sem, seval, i_code_write_b0]
theorem cwrite_1 (t l r : T) (h0 : t.kids = [l, r]) (hk : t.kind = 1 ∨ t.kind = 2) (hl : l.formed = true) (hr : r.formed = true) (il : WrOk l) (ir : WrOk r) : WrOk t := fun acc ha hb => by
 have hz := size_two h0
 have wl := wr_len l hl
 have wr := wr_len r hr
 have h1 := coder_Bytes_ev t.key (by omega)
 have h2 := byts_len t.key
 rw [wr_two h0]
 rcases hk with hk | hk
 ·have h3 := coder_Bytes_ev t.value (by omega)
  have h4 := byts_len t.value
  unfold hdB
  rw [hk, if_pos rfl]
  generalize byts t.key = d at *
  generalize byts t.value = e at *
  have k1 := il (acc ++ byt 1 :: (d ++ e)) (by simp) (by simp only [List.length_append, List.length_cons]; omega)
  have k2 := ir (acc ++ byt 1 :: (d ++ (e ++ l.wr))) (by simp) (by simp only [List.length_append, List.length_cons]; omega)
  generalize l.wr = x at *
  generalize r.wr = y at *
  try simp (maxSteps := 1000000) (disch := first | omega | (simp only [lens, List.length_map]; omega)) only [go_sem, seval] at k1
  try simp (maxSteps := 1000000) (disch := first | omega | (simp only [lens, List.length_map]; omega)) only [go_sem, seval] at k2
  refine Ev_run t_code_write rfl rfl ?_
  simp (maxSteps := 1000000) (disch := first | omega | (simp only [lens, List.length_map]; omega)) only [go_sem, seval, i_code_write, h0, hk, h1, h3]
  rw [L_code_write_0_eq]
  simp (maxSteps := 1000000) (disch := first | omega | (simp only [lens, List.length_map]; omega)) only [go_sem, seval, i_code_write_b0, k1]
  rw [L_code_write_0_eq]
  simp (maxSteps := 1000000) (disch := first | omega | (simp only [lens, List.length_map]; omega)) only [go_sem, seval, i_code_write_b0, k2]
  rw [L_code_write_0_eq]
  simp (maxSteps := 1000000) (disch := first | omega | (simp only [lens, List.length_map]; omega)) only [go_sem, seval, i_code_write_b0]
 ·have h3 := coder_Bytes_ev t.digest (by omega)
  have h4 := byts_len t.digest
  unfold hdB
  rw [hk, if_neg (by omega), if_pos rfl]
  generalize byts t.key = d at *
  generalize byts t.digest = e at *
  have k1 := il (acc ++ byt 2 :: (d ++ e)) (by simp) (by simp only [List.length_append, List.length_cons]; omega)
  have k2 := ir (acc ++ byt 2 :: (d ++ (e ++ l.wr))) (by simp) (by simp only [List.length_append, List.length_cons]; omega)
  generalize l.wr = x at *
  generalize r.wr = y at *
  try simp (maxSteps := 1000000) (disch := first | omega | (simp only [lens, List.length_map]; omega)) only [go_sem, seval] at k1
  try simp (maxSteps := 1000000) (disch := first | omega | (simp only [lens, List.length_map]; omega)) only [go_sem, seval] at k2
  refine Ev_run t_code_write rfl rfl ?_
  simp (maxSteps := 1000000) (disch := first | omega | (simp only [lens, List.length_map]; omega)) only [go_sem, seval, i_code_write, h0, hk, h1, h3]
  rw [L_code_write_0_eq]
  simp (maxSteps := 1000000) (disch := first | omega | (simp only [lens, List.length_map]; omega)) only [go_sem, seval, i_code_write_b0, k1]
  rw [L_code_write_0_eq]
  simp (maxSteps := 1000000) (disch := first | omega | (simp only [lens, List.length_map]; omega)) only [go_sem, seval, i_code_write_b0, k2]
  rw [L_code_write_0_eq]
  simp (maxSteps := 1000000) (disch := first | omega | (simp only [lens, List.length_map]; omega)) only [go_sem, seval, i_code_write_b0]
theorem cwrite_ok : ∀ t : T, t.formed = true → WrOk t := F_ind
 (fun t hf h => by
  have := hd_kind hf
  unfold okT at this
  rw [h] at this
  simp only [List.length_nil] at this
  exact cwrite_0 t h (by omega))
 fun t l r hf h hl hr il ir => by
  have := hd_kind hf
  unfold okT at this
  rw [h] at this
  simp only [List.length_cons, List.length_nil] at this
  exact cwrite_1 t l r h (by omega) hl hr il ir
theorem eB_emp {x : UInt8} {l : List UInt8} : (eB (x :: l)).isEmpty = false := rfl
theorem cwrite_nil (t : T) (hf : t.formed = true) (hs : t.size ≤ 1048576) : Ev tab G0 n_code_write [.nilsl, avT t] [] = some ([.row 0 t.wr.length], [rowB t.wr]) := by
 have hz := size_eq t
 have ho := hd_kind hf
 rcases two_of hf with h0 | ⟨l, r, h0, hl, hr⟩
 ·unfold okT at ho
  rw [h0] at ho
  simp only [List.length_nil] at ho
  have hk : t.kind = 0 ∨ t.kind = 3 := by omega
  rw [wr_nil h0]
  rcases hk with hk | hk
  ·unfold hdB
   rw [hk, if_neg (by omega), if_neg (by omega), if_neg (by omega)]
   refine Ev_run t_code_write rfl rfl ?_
   simp (maxSteps := 1000000) (disch := first | omega | (simp only [lens, List.length_map]; omega)) only [go_sem, seval, i_code_write, eB_emp, h0, hk]
   rw [L_code_write_0_eq]
   simp (maxSteps := 1000000) (disch := first | omega | (simp only [lens, List.length_map]; omega)) only [go_sem, seval, i_code_write_b0]
  ·have h1 := coder_Bytes_ev t.digest (by omega)
   have h2 := byts_len t.digest
   unfold hdB
   rw [hk, if_neg (by omega), if_neg (by omega), if_pos rfl]
   generalize byts t.digest = d at *
   refine Ev_run t_code_write rfl rfl ?_
   simp (maxSteps := 1000000) (disch := first | omega | (simp only [lens, List.length_map]; omega)) only [go_sem, seval, i_code_write, eB_emp, h0, hk, h1]
   rw [L_code_write_0_eq]
   simp (maxSteps := 1000000) (disch := first | omega | (simp only [lens, List.length_map]; omega)) only [go_sem, seval, i_code_write_b0]
 ·unfold okT at ho
  rw [h0] at ho
  simp only [List.length_cons, List.length_nil] at ho
  have hk : t.kind = 1 ∨ t.kind = 2 := by omega
  have hz := size_two h0
  have wl := wr_len l hl
  have wr := wr_len r hr
  have il := cwrite_ok l hl
  have ir := cwrite_ok r hr
  have h1 := coder_Bytes_ev t.key (by omega)
  have h2 := byts_len t.key
  rw [wr_two h0]
  rcases hk with hk | hk
  ·have h3 := coder_Bytes_ev t.value (by omega)
   have h4 := byts_len t.value
   unfold hdB
   rw [hk, if_pos rfl]
   generalize byts t.key = d at *
   generalize byts t.value = e at *
   have k1 := il (byt 1 :: (d ++ e)) (by simp) (by simp only [List.length_append, List.length_cons]; omega)
   have k2 := ir (byt 1 :: (d ++ (e ++ l.wr))) (by simp) (by simp only [List.length_append, List.length_cons]; omega)
   generalize l.wr = x at *
   generalize r.wr = y at *
   try simp (maxSteps := 1000000) (disch := first | omega | (simp only [lens, List.length_map]; omega)) only [go_sem, seval] at k1
   try simp (maxSteps := 1000000) (disch := first | omega | (simp only [lens, List.length_map]; omega)) only [go_sem, seval] at k2
   refine Ev_run t_code_write rfl rfl ?_
   simp (maxSteps := 1000000) (disch := first | omega | (simp only [lens, List.length_map]; omega)) only [go_sem, seval, i_code_write, eB_emp, h0, hk, h1, h3]
   rw [L_code_write_0_eq]
   simp (maxSteps := 1000000) (disch := first | omega | (simp only [lens, List.length_map]; omega)) only [go_sem, seval, i_code_write_b0, k1]
   rw [L_code_write_0_eq]
   simp (maxSteps := 1000000) (disch := first | omega | (simp only [lens, List.length_map]; omega)) only [go_sem, seval, i_code_write_b0, k2]
   rw [L_code_write_0_eq]
   simp (maxSteps := 1000000) (disch := first | omega | (simp only [lens, List.length_map]; omega)) only [go_sem, seval, i_code_write_b0]
  ·have h3 := coder_Bytes_ev t.digest (by omega)
   have h4 := byts_len t.digest
   unfold hdB
   rw [hk, if_neg (by omega), if_pos rfl]
   generalize byts t.key = d at *
   generalize byts t.digest = e at *
   have k1 := il (byt 2 :: (d ++ e)) (by simp) (by simp only [List.length_append, List.length_cons]; omega)
   have k2 := ir (byt 2 :: (d ++ (e ++ l.wr))) (by simp) (by simp only [List.length_append, List.length_cons]; omega)
   generalize l.wr = x at *
   generalize r.wr = y at *
   try simp (maxSteps := 1000000) (disch := first | omega | (simp only [lens, List.length_map]; omega)) only [go_sem, seval] at k1
   try simp (maxSteps := 1000000) (disch := first | omega | (simp only [lens, List.length_map]; omega)) only [go_sem, seval] at k2
   refine Ev_run t_code_write rfl rfl ?_
   simp (maxSteps := 1000000) (disch := first | omega | (simp only [lens, List.length_map]; omega)) only [go_sem, seval, i_code_write, eB_emp, h0, hk, h1, h3]
   rw [L_code_write_0_eq]
   simp (maxSteps := 1000000) (disch := first | omega | (simp only [lens, List.length_map]; omega)) only [go_sem, seval, i_code_write_b0, k1]
   rw [L_code_write_0_eq]
   simp (maxSteps := 1000000) (disch := first | omega | (simp only [lens, List.length_map]; omega)) only [go_sem, seval, i_code_write_b0, k2]
   rw [L_code_write_0_eq]
   simp (maxSteps := 1000000) (disch := first | omega | (simp only [lens, List.length_map]; omega)) only [go_sem, seval, i_code_write_b0]
theorem rbytes_0 (t : T) (h0 : t.kids = []) (hk : t.kind = 0 ∨ t.kind = 3) (hs : t.size ≤ 1048576) : Ev tab G0 n_ref10_bytes [avT t] [] = some ([.sl true (eB t.wr)], []) := by
 have hz := size_eq t
 rw [wr_nil h0]
 rcases hk with hk | hk
 ·unfold hdB
  rw [hk, if_neg (by omega), if_neg (by omega), if_neg (by omega)]
  refine Ev_run t_ref10_bytes rfl rfl ?_
  simp (disch := omega) only [go_sem, seval, i_ref10_bytes, h0, hk]
  rw [L_ref10_bytes_0_eq]
  simp (disch := omega) only [go_sem, seval, i_ref10_bytes_b0, h0]
 ·have h1 := ref02_Bytes_ev t.digest (by omega)
  have h2 := byts_len t.digest
  unfold hdB
  rw [hk, if_neg (by omega), if_neg (by omega), if_pos rfl]
  generalize byts t.digest = d at *
  refine Ev_run t_ref10_bytes rfl rfl ?_
  simp (disch := omega) only [go_sem, seval, i_ref10_bytes, h0, hk, h1]
  rw [L_ref10_bytes_0_eq]
  simp (disch := omega) only [go_sem, seval, i_ref10_bytes_b0, h0]
theorem rbytes_ev : ∀ t : T, t.formed = true → t.size ≤ 1048576 → Ev tab G0 n_ref10_bytes [avT t] [] = some ([.sl true (eB t.wr)], []) := F_ind
 (fun t hf h hs => by
  have := hd_kind hf
  unfold okT at this
  rw [h] at this
  simp only [List.length_nil] at this
  exact rbytes_0 t h (by omega) hs)
 fun t l r hf h0 hl hr il ir hs => by
  have ho := hd_kind hf
  unfold okT at ho
  rw [h0] at ho
  simp only [List.length_cons, List.length_nil] at ho
  have hk : t.kind = 1 ∨ t.kind = 2 := by omega
  have hz := size_two h0
  have wl := wr_len l hl
  have wr := wr_len r hr
  have k1 := il (by omega)
  have k2 := ir (by omega)
  have h1 := ref02_Bytes_ev t.key (by omega)
  have h2 := byts_len t.key
  rw [wr_two h0]
  generalize l.wr = x at *
  generalize r.wr = y at *
  rcases hk with hk | hk
  ·have h3 := ref02_Bytes_ev t.value (by omega)
   have h4 := byts_len t.value
   unfold hdB
   rw [hk, if_pos rfl]
   generalize byts t.key = d at *
   generalize byts t.value = e at *
   refine Ev_run t_ref10_bytes rfl rfl ?_
   simp (maxSteps := 1000000) (disch := first | omega | (simp only [lens, List.length_map]; omega)) only [go_sem, seval, i_ref10_bytes, h0, hk, h1, h3]
   rw [L_ref10_bytes_0_eq]
   simp (maxSteps := 1000000) (disch := first | omega | (simp only [lens, List.length_map]; omega)) only [go_sem, seval, i_ref10_bytes_b0, k1, h0]
   rw [L_ref10_bytes_0_eq]
   simp (maxSteps := 1000000) (disch := first | omega | (simp only [lens, List.length_map]; omega)) only [go_sem, seval, i_ref10_bytes_b0, k2, h0]
   rw [L_ref10_bytes_0_eq]
   simp (maxSteps := 1000000) (disch := first | omega | (simp only [lens, List.length_map]; omega)) only [go_sem, seval, i_ref10_bytes_b0, h0]
  ·have h3 := ref02_Bytes_ev t.digest (by omega)
   have h4 := byts_len t.digest
   unfold hdB
   rw [hk, if_neg (by omega), if_pos rfl]
   generalize byts t.key = d at *
   generalize byts t.digest = e at *
   refine Ev_run t_ref10_bytes rfl rfl ?_
   simp (maxSteps := 1000000) (disch := first | omega | (simp only [lens, List.length_map]; omega)) only [go_sem, seval, i_ref10_bytes, h0, hk, h1, h3]
   rw [L_ref10_bytes_0_eq]
   simp (maxSteps := 1000000) (disch := first | omega | (simp only [lens, List.length_map]; omega)) only [go_sem, seval, i_ref10_bytes_b0, k1, h0]
   rw [L_ref10_bytes_0_eq]
   simp (maxSteps := 1000000) (disch := first | omega | (simp only [lens, List.length_map]; omega)) only [go_sem, seval, i_ref10_bytes_b0, k2, h0]
   rw [L_ref10_bytes_0_eq]
   simp (maxSteps := 1000000) (disch := first | omega | (simp only [lens, List.length_map]; omega)) only [go_sem, seval, i_ref10_bytes_b0, h0]
end Go.Proofs.Ytdgfbfkjdflabaa
namespace Go.Proofs.Ytdgfbfkjdflabaa
open Go.Ev
def wrC (t : T) : Int := if ¬ t.chk = 0 then t.chk else if t.long = true then 2 else 0
def wrB (t : T) : List UInt8 := if wrC t = 0 then t.wr else []
theorem wrC_bad {t : T} (h : ¬ t.chk = 0) : wrC t = t.chk := by unfold wrC; rw [if_pos h]
theorem wrC_long {t : T} (h : t.chk = 0) (hg : t.long = true) : wrC t = 2 := by unfold wrC; rw [if_neg (fun x => x h), if_pos hg]
theorem wrC_good {t : T} (h : t.chk = 0) (hg : t.long = false) : wrC t = 0 := by unfold wrC; rw [if_neg (fun x => x h), hg, if_neg (by simp)]
theorem wrB_good {t : T} (h : wrC t = 0) : wrB t = t.wr := if_pos h
theorem wrB_bad {t : T} (h : ¬ wrC t = 0) : wrB t = [] := if_neg h
theorem code_Write_ev (t : T) (hs : t.size ≤ 1048576) : Ev tab G0 n_code_Write [avT t] [] = some ([.sl true (eB (wrB t)), errV (wrC t)], []) := by
 have h1 := tree_Check_ev t hs
 have h2 := code_long_ev t hs
 by_cases hc : t.chk = 0
 ·have hf := chk_formed hc
  have h3 := cwrite_nil t hf hs
  have hl := wr_len t hf
  rw [hc, errV, if_pos rfl] at h1
  cases hg : t.long
  ·rw [hg] at h2
   have hw := wrC_good hc hg
   rw [wrB_good hw, hw, errV, if_pos rfl]
   generalize t.wr = w at *
   refine Ev_run t_code_Write rfl rfl ?_
   simp (disch := omega) only [go_sem, seval, i_code_Write, h1, h2, h3]
  ·rw [hg] at h2
   have hw := wrC_long hc hg
   rw [wrB_bad (by omega), hw, errV, if_neg (by decide)]
   refine Ev_run t_code_Write rfl rfl ?_
   simp (disch := omega) only [go_sem, seval, i_code_Write, h1, h2]
 ·rw [errV, if_neg hc] at h1
  have hw := wrC_bad hc
  rw [wrB_bad (by omega), hw, errV, if_neg hc]
  refine Ev_run t_code_Write rfl rfl ?_
  simp (disch := omega) only [go_sem, seval, i_code_Write, h1]
theorem ref10_Write_ev (t : T) (hs : t.size ≤ 1048576) : Ev tab G0 n_ref10_Write [avT t] [] = some ([.sl true (eB (wrB t)), i64 (wrC t)], []) := by
 have h1 := ref04_Check_ev t hs
 have h2 := ref10_long_ev t hs
 by_cases hc : t.chk = 0
 ·have hf := chk_formed hc
  have h3 := rbytes_ev t hf hs
  have hl := wr_len t hf
  rw [hc] at h1
  cases hg : t.long
  ·rw [hg] at h2
   have hw := wrC_good hc hg
   rw [wrB_good hw, hw]
   generalize t.wr = w at *
   refine Ev_run t_ref10_Write rfl rfl ?_
   simp (disch := omega) only [go_sem, seval, i_ref10_Write, h1, h2, h3]
  ·rw [hg] at h2
   have hw := wrC_long hc hg
   rw [wrB_bad (by omega), hw]
   refine Ev_run t_ref10_Write rfl rfl ?_
   simp (disch := omega) only [go_sem, seval, i_ref10_Write, h1, h2]
 ·have hw := wrC_bad hc
  rw [wrB_bad (by omega), hw]
  refine Ev_run t_ref10_Write rfl rfl ?_
  simp (disch := omega) only [go_sem, seval, i_ref10_Write, h1]
end Go.Proofs.Ytdgfbfkjdflabaa
namespace Go.Proofs.Ytdgfbfkjdflabaa
open Go.Ev
end Go.Proofs.Ytdgfbfkjdflabaa
namespace Go.Proofs.Ytdgfbfkjdflabaa
open Go.Ev
structure MG where
 kd : Int
 fr : Int
 to : Int
 tm : Int
 ix : Int
 lt : Int
 cm : Int
 ok : Bool
 ents : List Ent
 mem : List Int
 part : Int
 root : List UInt8
 tree : T
abbrev mCells (m : MG) : List AV := [i64 m.kd, i64 m.fr, i64 m.to, i64 m.tm, i64 m.ix, i64 m.lt, i64 m.cm, bo m.ok, .sl true (eE m.ents), .sl true (eI .i64 m.mem), i64 m.part, .sl true (eB m.root), i64 m.tree.kind, .sl true (eB m.tree.key), .sl true (eB m.tree.value), .sl true (eB m.tree.digest), .sl true (eT m.tree.kids)]
abbrev avMsg (m : MG) : AV := .agg (mCells m)
abbrev oMs (m : MG) : Ev.Obj := .var (mCells m)
def MG.l7 (m : MG) : List Int := [m.kd, m.fr, m.to, m.tm, m.ix, m.lt, m.cm]
def okB (b : Bool) : List UInt8 := if b = true then [1] else [0]
theorem okB_ne (b : Bool) : okB b ≠ [] := by cases b <;> simp [okB]
def Wr.ap (w : Wr) (x : List UInt8) : Wr := ⟨w.b ++ x, w.bad⟩
def Wr.or (w : Wr) (x : Bool) : Wr := ⟨w.b, w.bad || x⟩
def MG.p1 (m : MG) : Wr := Wr.cnts ⟨[], false⟩ m.l7
def MG.p2 (m : MG) : Wr := m.p1.ap (okB m.ok)
def MG.p3 (m : MG) : Wr := (m.p2.cnts [(m.ents.length : Int)]).ents m.ents
def MG.p4 (m : MG) : Wr := (m.p3.cnts [(m.mem.length : Int)]).cnts m.mem
def MG.p5 (m : MG) : Wr := m.p4.cnts [m.part]
def MG.p6 (m : MG) : Wr := m.p5.byt m.root 32
def MG.p7 (m : MG) : Wr := m.p6.or (decide (¬ wrC m.tree = 0))
def MG.p (m : MG) : Wr := m.p7.byt (wrB m.tree) (wrB m.tree).length
def MG.r1 (m : MG) : Wr := Wr.rmem ⟨[], false⟩ m.l7
def MG.r2 (m : MG) : Wr := m.r1.ap (okB m.ok)
def MG.r3 (m : MG) : Wr := (m.r2.cnts [(m.ents.length : Int)]).rents m.ents
def MG.r4 (m : MG) : Wr := (m.r3.cnts [(m.mem.length : Int)]).rmem m.mem
def MG.r5 (m : MG) : Wr := m.r4.cnts [m.part]
def MG.r6 (m : MG) : Wr := m.r5.rbyt m.root 32
def MG.r7 (m : MG) : Wr := m.r6.or (decide (¬ wrC m.tree = 0))
def MG.r (m : MG) : Wr := m.r7.rbyt (wrB m.tree) (wrB m.tree).length
theorem Sm.ap {a b : Wr} (h : Sm a b) (x : List UInt8) : Sm (a.ap x) (b.ap x) := ⟨h.1, fun hb => by simp only [Wr.ap] at hb ⊢; rw [h.2 hb]⟩
theorem Sm.or {a b : Wr} (h : Sm a b) (x : Bool) : Sm (a.or x) (b.or x) := ⟨by simp only [Wr.or]; rw [h.1], fun hb => by simp only [Wr.or, Bool.or_eq_false_iff] at hb ⊢; exact h.2 hb.1⟩
theorem msg_sm (m : MG) : Sm m.p m.r := (((((((Sm.cnts m.l7 (Sm.refl ⟨[], false⟩)).ap (okB m.ok)).cnt _).ents m.ents |>.cnt _).cnts m.mem).cnt m.part).byt m.root 32 |>.or _).byt _ _
structure MG.fit (m : MG) : Prop where
 fe : sumE m.ents ≤ 41943040
 fm : m.mem.length ≤ 1048576
 fr : m.root.length ≤ 1048576
 ft : m.tree.size ≤ 1048576
theorem wrB_len (t : T) (h : t.size ≤ 1048576) : (wrB t).length ≤ 19922944 := by
 by_cases hc : wrC t = 0
 ·rw [wrB_good hc]
  have hc2 : t.chk = 0 := by
   by_cases hc2 : t.chk = 0
   ·exact hc2
   ·rw [wrC_bad hc2] at hc; exact hc
  have := wr_len t (chk_formed hc2)
  omega
 ·rw [wrB_bad hc]; simp
theorem avM_tree (m : MG) : avT m.tree = .agg [i64 m.tree.kind, .sl true (eB m.tree.key), .sl true (eB m.tree.value), .sl true (eB m.tree.digest), .sl true (eT m.tree.kids)] := rfl
theorem eI_7 {a b c d e f g : Int} : (((((((eI .i64 [0, 0, 0, 0, 0, 0, 0]).set 0 [C.sc (.int .i64 a)]).set 1 [C.sc (.int .i64 b)]).set 2 [C.sc (.int .i64 c)]).set 3 [C.sc (.int .i64 d)]).set 4 [C.sc (.int .i64 e)]).set 5 [C.sc (.int .i64 f)]).set 6 [C.sc (.int .i64 g)] = eI .i64 [a, b, c, d, e, f, g] := rfl
theorem eI_7z {a b c d e f g : Int} : [C.sc (.int .i64 a)] :: [C.sc (.int .i64 b)] :: [C.sc (.int .i64 c)] :: [C.sc (.int .i64 d)] :: [C.sc (.int .i64 e)] :: [C.sc (.int .i64 f)] :: eI .i64 [g] = eI .i64 [a, b, c, d, e, f, g] := rfl
theorem avM_ok {m : MG} {b : Bool} (h : m.ok = b) : avMsg m = .agg [i64 m.kd, i64 m.fr, i64 m.to, i64 m.tm, i64 m.ix, i64 m.lt, i64 m.cm, bo b, .sl true (eE m.ents), .sl true (eI .i64 m.mem), i64 m.part, .sl true (eB m.root), i64 m.tree.kind, .sl true (eB m.tree.key), .sl true (eB m.tree.value), .sl true (eB m.tree.digest), .sl true (eT m.tree.kids)] := by rw [← h]
theorem eB_ne0 : (eB [0]).isEmpty = false := rfl
theorem eB_ne1 : (eB [1]).isEmpty = false := rfl
theorem Write_ev (m : MG) (hf : m.fit) : Ev tab G0 n_entry_Write [avMsg m] [] = some ([.sl true (eB m.p.endB), errV m.p.endC], []) := by
 obtain ⟨he, hm, hr, ht⟩ := hf
 have hse := sumE_len m.ents
 have hwl := wrB_len m.tree ht
 have l1 := cnts_len ⟨[], false⟩ m.l7
 have l3 := ents_len (m.p2.cnts [(m.ents.length : Int)]) m.ents
 have l3' := cnt1_len m.p2 (m.ents.length : Int)
 have l4 := cnts_len (m.p3.cnts [(m.mem.length : Int)]) m.mem
 have l4' := cnt1_len m.p3 (m.mem.length : Int)
 have l5 := cnt1_len m.p4 m.part
 have l6 := byt_len m.p5 m.root 32
 have l8 := byt_len m.p7 (wrB m.tree) (wrB m.tree).length
 have l2 : m.p2.b.length = m.p1.b.length + 1 := by
  unfold MG.p2 Wr.ap okB
  cases m.ok <;> simp
 simp only [MG.l7, List.length_cons, List.length_nil] at l1
 change m.p1.b.length ≤ _ at l1
 change m.p3.b.length ≤ _ at l3
 change m.p4.b.length ≤ _ at l4
 change m.p5.b.length ≤ _ at l5
 change m.p6.b.length ≤ _ at l6
 change m.p.b.length ≤ m.p6.b.length + _ + _ at l8
 have n2 : m.p2.b ≠ [] := fun e => okB_ne m.ok (List.append_eq_nil_iff.1 e).2
 have n3 : m.p3.b ≠ [] := ents_ne _ (cnts_ne _ n2 _) _
 have n4 : m.p4.b ≠ [] := cnts_ne _ (cnts_ne _ n3 _) _
 have n5 : m.p5.b ≠ [] := cnts_ne _ n4 _
 have n6 : m.p6.b ≠ [] := byt_ne _ _ _ n5
 have n7 : m.p7.b ≠ [] := n6
 have n8 : m.p.b ≠ [] := byt_ne _ _ _ n7
 have h1 := entry_counts_ev ⟨[], false⟩ m.l7 (by simp [MG.l7]) (by simp [MG.l7])
 have h3 := entry_entries_ev m.p2 m.ents (by omega) (by omega)
 have h4 := entry_members_ev m.p3 m.mem (by omega) (by omega)
 have h5 := entry_counts_ev m.p4 [m.part] (by simp) (by simp only [List.length_cons, List.length_nil]; omega)
 have h6 := entry_bytes_ev m.p5 m.root 32 (by omega) (by omega) (by omega)
 have h7 := code_Write_ev m.tree ht
 have h8 := entry_bytes_ev m.p7 (wrB m.tree) (wrB m.tree).length (by omega) (by omega) (by change m.p6.b.length + _ ≤ _; omega)
 obtain ⟨outs, _, h9, fr, rfl⟩ := entry_end_ev m.p (by omega) n8
 change _ = some ([], inW m.p1) at h1
 change _ = some ([], inW m.p3) at h3
 change _ = some ([], inW m.p4) at h4
 change _ = some ([], inW m.p5) at h5
 change _ = some ([], inW m.p6) at h6
 change _ = some ([], inW m.p) at h8
 rw [inW_nil rfl] at h1
 rw [inW_ne n2, inW_ne n3] at h3
 rw [inW_ne n3, inW_ne n4] at h4
 rw [inW_ne n4, inW_ne n5] at h5
 rw [inW_ne n5, inW_ne n6] at h6
 rw [inW_ne n7, inW_ne n8] at h8
 rw [inW_ne n8] at h9
 have e7 : m.p7.b = m.p6.b := rfl
 have e7b : m.p7.bad = (m.p6.bad || decide (¬ wrC m.tree = 0)) := rfl
 have e2 : m.p2.b = m.p1.b ++ okB m.ok := rfl
 have e2b : m.p2.bad = m.p1.bad := rfl
 rw [e7, e7b] at h8
 rw [e2, e2b] at h3
 unfold MG.l7 at h1
 rw [avM_tree] at h7
 have eb1 : byt 1 = 1 := rfl
 have eb0 : byt 0 = 0 := rfl
 obtain ⟨v, hv, r1⟩ : ∃ v, errV m.p.endC = .s v ∧ AV.canon (.s v) = .s v := by
  rcases endC_cases m.p with h | h | h <;> rw [h]
  ·exact ⟨.nilIface, rfl, rfl⟩
  ·exact ⟨_, rfl, rfl⟩
  ·exact ⟨_, rfl, rfl⟩
 rw [hv] at h9 ⊢
 generalize m.p.endB = eb at *
 by_cases hw : m.p1.b = []
 ·rw [inW_nil hw] at h1
  rw [hw, List.nil_append] at h3
  generalize m.p1.bad = b1 at *
  generalize m.p3 = w3 at *
  generalize m.p4 = w4 at *
  generalize m.p5 = w5 at *
  generalize m.p6 = w6 at *
  generalize m.p = w8 at *
  generalize wrB m.tree = wb at *
  cases hok : m.ok
  ·rw [hok, show okB false = [0] from rfl, show ([0] : List UInt8).length = 1 from rfl] at h3
   rw [avM_ok hok]
   refine Ev_run t_entry_Write rfl rfl ?_
   by_cases hc : wrC m.tree = 0
   ·rw [hc, errV, if_pos rfl] at h7
    rw [decide_eq_false (by simp [hc])] at h8
    cases hb6 : w6.bad
    ·simp only [hb6, Bool.or_false, Bool.or_true, Bool.false_or, Bool.true_or] at h6 h8
     simp (disch := omega) only [go_sem, seval, i_entry_Write, eI_7, eI_7z, eI_1, eI_s1, eB_ne0, eb0, h1, h3, h4, h5, h6, h7, h8, h9, r1]
    ·simp only [hb6, Bool.or_false, Bool.or_true, Bool.false_or, Bool.true_or] at h6 h8
     simp (disch := omega) only [go_sem, seval, i_entry_Write, eI_7, eI_7z, eI_1, eI_s1, eB_ne0, eb0, h1, h3, h4, h5, h6, h7, h8, h9, r1]
   ·rw [errV, if_neg hc] at h7
    rw [decide_eq_true hc] at h8
    generalize wrC m.tree = wc at *
    cases hb6 : w6.bad
    ·simp only [hb6, Bool.or_false, Bool.or_true, Bool.false_or, Bool.true_or] at h6 h8
     simp (disch := omega) only [go_sem, seval, i_entry_Write, eI_7, eI_7z, eI_1, eI_s1, eB_ne0, eb0, h1, h3, h4, h5, h6, h7, h8, h9, r1]
    ·simp only [hb6, Bool.or_false, Bool.or_true, Bool.false_or, Bool.true_or] at h6 h8
     simp (disch := omega) only [go_sem, seval, i_entry_Write, eI_7, eI_7z, eI_1, eI_s1, eB_ne0, eb0, h1, h3, h4, h5, h6, h7, h8, h9, r1]
  ·rw [hok, show okB true = [1] from rfl, show ([1] : List UInt8).length = 1 from rfl] at h3
   rw [avM_ok hok]
   refine Ev_run t_entry_Write rfl rfl ?_
   by_cases hc : wrC m.tree = 0
   ·rw [hc, errV, if_pos rfl] at h7
    rw [decide_eq_false (by simp [hc])] at h8
    cases hb6 : w6.bad
    ·simp only [hb6, Bool.or_false, Bool.or_true, Bool.false_or, Bool.true_or] at h6 h8
     simp (disch := omega) only [go_sem, seval, i_entry_Write, eI_7, eI_7z, eI_1, eI_s1, eB_ne1, eb1, h1, h3, h4, h5, h6, h7, h8, h9, r1]
    ·simp only [hb6, Bool.or_false, Bool.or_true, Bool.false_or, Bool.true_or] at h6 h8
     simp (disch := omega) only [go_sem, seval, i_entry_Write, eI_7, eI_7z, eI_1, eI_s1, eB_ne1, eb1, h1, h3, h4, h5, h6, h7, h8, h9, r1]
   ·rw [errV, if_neg hc] at h7
    rw [decide_eq_true hc] at h8
    generalize wrC m.tree = wc at *
    cases hb6 : w6.bad
    ·simp only [hb6, Bool.or_false, Bool.or_true, Bool.false_or, Bool.true_or] at h6 h8
     simp (disch := omega) only [go_sem, seval, i_entry_Write, eI_7, eI_7z, eI_1, eI_s1, eB_ne1, eb1, h1, h3, h4, h5, h6, h7, h8, h9, r1]
    ·simp only [hb6, Bool.or_false, Bool.or_true, Bool.false_or, Bool.true_or] at h6 h8
     simp (disch := omega) only [go_sem, seval, i_entry_Write, eI_7, eI_7z, eI_1, eI_s1, eB_ne1, eb1, h1, h3, h4, h5, h6, h7, h8, h9, r1]
 ·rw [inW_ne hw] at h1
  generalize m.p3 = w3 at *
  generalize m.p4 = w4 at *
  generalize m.p5 = w5 at *
  generalize m.p6 = w6 at *
  generalize m.p = w8 at *
  generalize m.p1 = w1 at *
  generalize wrB m.tree = wb at *
  cases hok : m.ok
  ·rw [hok, show okB false = [0] from rfl, List.length_append, List.length_singleton] at h3
   rw [avM_ok hok]
   refine Ev_run t_entry_Write rfl rfl ?_
   by_cases hc : wrC m.tree = 0
   ·rw [hc, errV, if_pos rfl] at h7
    rw [decide_eq_false (by simp [hc])] at h8
    cases hb6 : w6.bad
    ·simp only [hb6, Bool.or_false, Bool.or_true, Bool.false_or, Bool.true_or] at h6 h8
     simp (disch := omega) only [go_sem, seval, i_entry_Write, eI_7, eI_7z, eI_1, eI_s1, eB_ne0, eb0, h1, h3, h4, h5, h6, h7, h8, h9, r1]
    ·simp only [hb6, Bool.or_false, Bool.or_true, Bool.false_or, Bool.true_or] at h6 h8
     simp (disch := omega) only [go_sem, seval, i_entry_Write, eI_7, eI_7z, eI_1, eI_s1, eB_ne0, eb0, h1, h3, h4, h5, h6, h7, h8, h9, r1]
   ·rw [errV, if_neg hc] at h7
    rw [decide_eq_true hc] at h8
    generalize wrC m.tree = wc at *
    cases hb6 : w6.bad
    ·simp only [hb6, Bool.or_false, Bool.or_true, Bool.false_or, Bool.true_or] at h6 h8
     simp (disch := omega) only [go_sem, seval, i_entry_Write, eI_7, eI_7z, eI_1, eI_s1, eB_ne0, eb0, h1, h3, h4, h5, h6, h7, h8, h9, r1]
    ·simp only [hb6, Bool.or_false, Bool.or_true, Bool.false_or, Bool.true_or] at h6 h8
     simp (disch := omega) only [go_sem, seval, i_entry_Write, eI_7, eI_7z, eI_1, eI_s1, eB_ne0, eb0, h1, h3, h4, h5, h6, h7, h8, h9, r1]
  ·rw [hok, show okB true = [1] from rfl, List.length_append, List.length_singleton] at h3
   rw [avM_ok hok]
   refine Ev_run t_entry_Write rfl rfl ?_
   by_cases hc : wrC m.tree = 0
   ·rw [hc, errV, if_pos rfl] at h7
    rw [decide_eq_false (by simp [hc])] at h8
    cases hb6 : w6.bad
    ·simp only [hb6, Bool.or_false, Bool.or_true, Bool.false_or, Bool.true_or] at h6 h8
     simp (disch := omega) only [go_sem, seval, i_entry_Write, eI_7, eI_7z, eI_1, eI_s1, eB_ne1, eb1, h1, h3, h4, h5, h6, h7, h8, h9, r1]
    ·simp only [hb6, Bool.or_false, Bool.or_true, Bool.false_or, Bool.true_or] at h6 h8
     simp (disch := omega) only [go_sem, seval, i_entry_Write, eI_7, eI_7z, eI_1, eI_s1, eB_ne1, eb1, h1, h3, h4, h5, h6, h7, h8, h9, r1]
   ·rw [errV, if_neg hc] at h7
    rw [decide_eq_true hc] at h8
    generalize wrC m.tree = wc at *
    cases hb6 : w6.bad
    ·simp only [hb6, Bool.or_false, Bool.or_true, Bool.false_or, Bool.true_or] at h6 h8
     simp (disch := omega) only [go_sem, seval, i_entry_Write, eI_7, eI_7z, eI_1, eI_s1, eB_ne1, eb1, h1, h3, h4, h5, h6, h7, h8, h9, r1]
    ·simp only [hb6, Bool.or_false, Bool.or_true, Bool.false_or, Bool.true_or] at h6 h8
     simp (disch := omega) only [go_sem, seval, i_entry_Write, eI_7, eI_7z, eI_1, eI_s1, eB_ne1, eb1, h1, h3, h4, h5, h6, h7, h8, h9, r1]
end Go.Proofs.Ytdgfbfkjdflabaa
namespace Go.Proofs.Ytdgfbfkjdflabaa
open Go.Ev
theorem rw_loopC (m : MG) (l : List Int) (hl : l.length = 7) : ∀ (n i : Nat) (w : Wr), n + i = l.length → w.b ≠ [] → w.b.length + 9 * n ≤ 1073741824 → L_ref14_Write_0 (s_ref14_Write_K0 (.ptr 0 0) (.ptr 1 0) (.sl true (eI .i64 l)) (i64 i) [some (oMs m), some (oWr (.row 2 w.b.length) w.bad), some (rowB2 w.b), none, none, none, none, none, none, none]) = some (.exit 0, s_ref14_Write_J0 (.ptr 0 0) (.ptr 1 0) [some (oMs m), some (oWr (.row 2 (w.rmem (l.drop i)).b.length) (w.rmem (l.drop i)).bad), some (rowB2 (w.rmem (l.drop i)).b), none, none, none, none, none, none, none])
 | 0, i, w, h, hne, hb => by
  rw [List.drop_of_length_le (by omega), L_ref14_Write_0_eq]
  simp only [Wr.rmem]
  simp (disch := omega) only [go_sem, seval, i_ref14_Write_b0]
 | n + 1, i, w, h, hne, hb => by
  rw [drop_step (d := 0) (by omega), L_ref14_Write_0_eq]
  simp only [Wr.rmem]
  have hx1 := cnt1_len w (l.getD i 0)
  have hn1 := cnts_ne w hne [l.getD i 0]
  have h1 := ref14_count_ev w (l.getD i 0) (by omega)
  have ih := rw_loopC m l hl n (i + 1) _ (by omega) hn1 (by omega)
  rw [inW_ne hne, inW_ne hn1] at h1
  generalize w.cnts [l.getD i 0] = w1 at *
  generalize w1.rmem (l.drop (i + 1)) = w3 at *
  generalize hd : l.getD i 0 = e at *
  try simp (disch := omega) only [go_sem, seval] at ih
  simp (disch := omega) only [go_sem, seval, i_ref14_Write_b0, hd, h1, ih]
def hRW (m : MG) (w : Wr) : Heap := if w.b = [] then [some (oMs m), some (oWr .nilsl w.bad), none, none, none, none, none, none, none, none] else [some (oMs m), some (oWr (.row 2 w.b.length) w.bad), some (rowB2 w.b), none, none, none, none, none, none, none]
theorem hRW_nil {m : MG} {w : Wr} (h : w.b = []) : hRW m w = [some (oMs m), some (oWr .nilsl w.bad), none, none, none, none, none, none, none, none] := if_pos h
theorem hRW_ne {m : MG} {w : Wr} (h : w.b ≠ []) : hRW m w = [some (oMs m), some (oWr (.row 2 w.b.length) w.bad), some (rowB2 w.b), none, none, none, none, none, none, none] := if_neg h
theorem rw_loopA (m : MG) (l : List Int) (hl : l.length = 7) : ∀ (n i : Nat) (w : Wr), n + i = l.length → w.b = [] → L_ref14_Write_0 (s_ref14_Write_K0 (.ptr 0 0) (.ptr 1 0) (.sl true (eI .i64 l)) (i64 i) [some (oMs m), some (oWr .nilsl w.bad), none, none, none, none, none, none, none, none]) = some (.exit 0, s_ref14_Write_J0 (.ptr 0 0) (.ptr 1 0) (hRW m (w.rmem (l.drop i))))
 | 0, i, w, h, hne => by
  rw [List.drop_of_length_le (by omega), L_ref14_Write_0_eq]
  simp only [Wr.rmem]
  rw [hRW_nil hne]
  simp (disch := omega) only [go_sem, seval, i_ref14_Write_b0]
 | n + 1, i, w, h, hne => by
  rw [drop_step (d := 0) (by omega), L_ref14_Write_0_eq]
  simp only [Wr.rmem]
  have hx1 := cnt1_len w (l.getD i 0)
  have h0 : w.b.length = 0 := by rw [hne]; rfl
  have h1 := ref14_count_ev w (l.getD i 0) (by omega)
  by_cases hn1 : (w.cnts [l.getD i 0]).b = []
  ·have ih := rw_loopA m l hl n (i + 1) _ (by omega) hn1
   rw [inW_nil hne, inW_nil hn1] at h1
   generalize w.cnts [l.getD i 0] = w1 at *
   generalize w1.rmem (l.drop (i + 1)) = w3 at *
   generalize hd : l.getD i 0 = e at *
   try simp (disch := omega) only [go_sem, seval] at ih
   simp (disch := omega) only [go_sem, seval, i_ref14_Write_b0, hd, h1, ih]
  ·have ih := rw_loopC m l hl n (i + 1) _ (by omega) hn1 (by omega)
   have hn3 := rmem_ne _ hn1 (l.drop (i + 1))
   rw [hRW_ne hn3]
   rw [inW_nil hne, inW_ne hn1] at h1
   generalize w.cnts [l.getD i 0] = w1 at *
   generalize w1.rmem (l.drop (i + 1)) = w3 at *
   generalize hd : l.getD i 0 = e at *
   try simp (disch := omega) only [go_sem, seval] at ih
   simp (disch := omega) only [go_sem, seval, i_ref14_Write_b0, hd, h1, ih]
theorem oMs_ok {m : MG} {b : Bool} (h : m.ok = b) : oMs m = .var [i64 m.kd, i64 m.fr, i64 m.to, i64 m.tm, i64 m.ix, i64 m.lt, i64 m.cm, bo b, .sl true (eE m.ents), .sl true (eI .i64 m.mem), i64 m.part, .sl true (eB m.root), i64 m.tree.kind, .sl true (eB m.tree.key), .sl true (eB m.tree.value), .sl true (eB m.tree.digest), .sl true (eT m.tree.kids)] := by rw [← h]
theorem rWrite_ev (m : MG) (hf : m.fit) : Ev tab G0 n_ref14_Write [avMsg m] [] = some ([.sl true (eB m.p.endB), i64 m.p.endC], []) := by
 obtain ⟨sm1, sm2⟩ := (msg_sm m).fin
 rw [sm1, sm2]
 obtain ⟨he, hm, hr, ht⟩ := hf
 have hse := sumE_len m.ents
 have hwl := wrB_len m.tree ht
 have l1 := rmem_len ⟨[], false⟩ m.l7
 have l3 := rents_len (m.r2.cnts [(m.ents.length : Int)]) m.ents
 have l3' := cnt1_len m.r2 (m.ents.length : Int)
 have l4 := rmem_len (m.r3.cnts [(m.mem.length : Int)]) m.mem
 have l4' := cnt1_len m.r3 (m.mem.length : Int)
 have l5 := cnt1_len m.r4 m.part
 have l6 := rbyt_len m.r5 m.root 32
 have l8 := rbyt_len m.r7 (wrB m.tree) (wrB m.tree).length
 have l2 : m.r2.b.length = m.r1.b.length + 1 := by
  unfold MG.r2 Wr.ap okB
  cases m.ok <;> simp
 simp only [MG.l7, List.length_cons, List.length_nil] at l1
 change m.r1.b.length ≤ _ at l1
 change m.r3.b.length ≤ _ at l3
 change m.r4.b.length ≤ _ at l4
 change m.r5.b.length ≤ _ at l5
 change m.r6.b.length ≤ _ at l6
 change m.r.b.length ≤ m.r6.b.length + _ + _ at l8
 have n2 : m.r2.b ≠ [] := fun e => okB_ne m.ok (List.append_eq_nil_iff.1 e).2
 have n3 : m.r3.b ≠ [] := rents_ne _ (cnts_ne _ n2 _) _
 have n4 : m.r4.b ≠ [] := rmem_ne _ (cnts_ne _ n3 _) _
 have n5 : m.r5.b ≠ [] := cnts_ne _ n4 _
 have n6 : m.r6.b ≠ [] := rbyt_ne _ _ _ n5
 have n7 : m.r7.b ≠ [] := n6
 have n8 : m.r.b ≠ [] := rbyt_ne _ _ _ n7
 have h1 := rw_loopA m m.l7 rfl 7 0 ⟨[], false⟩ rfl rfl
 have h3 := ref14_entries_ev m.r2 m.ents (by omega) (by omega)
 have h4 := ref14_members_ev m.r3 m.mem (by omega) (by omega)
 have h5 := ref14_count_ev m.r4 m.part (by omega)
 have h6 := ref14_bytes_ev m.r5 m.root 32 (by omega) (by omega) (by omega)
 have h7 := ref10_Write_ev m.tree ht
 have h8 := ref14_bytes_ev m.r7 (wrB m.tree) (wrB m.tree).length (by omega) (by omega) (by change m.r6.b.length + _ ≤ _; omega)
 obtain ⟨fr, h9⟩ := ref14_end_ev m.r (by omega) n8
 rw [List.drop_zero] at h1
 change L_ref14_Write_0 _ = some (.exit 0, s_ref14_Write_J0 (.ptr 0 0) (.ptr 1 0) (hRW m m.r1)) at h1
 change _ = some ([], inW m.r3) at h3
 change _ = some ([], inW m.r4) at h4
 change _ = some ([], inW m.r5) at h5
 change _ = some ([], inW m.r6) at h6
 change _ = some ([], inW m.r) at h8
 rw [inW_ne n2, inW_ne n3] at h3
 rw [inW_ne n3, inW_ne n4] at h4
 rw [inW_ne n4, inW_ne n5] at h5
 rw [inW_ne n5, inW_ne n6] at h6
 rw [inW_ne n7, inW_ne n8] at h8
 rw [inW_ne n8] at h9
 have e7 : m.r7.b = m.r6.b := rfl
 have e7b : m.r7.bad = (m.r6.bad || decide (¬ wrC m.tree = 0)) := rfl
 have e2 : m.r2.b = m.r1.b ++ okB m.ok := rfl
 have e2b : m.r2.bad = m.r1.bad := rfl
 rw [e7, e7b] at h8
 rw [e2, e2b] at h3
 unfold MG.l7 at h1
 rw [avM_tree] at h7
 have e0 : ((0 : Nat) : Int) = 0 := rfl
 rw [e0] at h1
 have eb1 : byt 1 = 1 := rfl
 have eb0 : byt 0 = 0 := rfl
 generalize m.r.endB = eb at *
 generalize m.r.endC = ec at *
 by_cases hw : m.r1.b = []
 ·rw [hRW_nil hw] at h1
  rw [hw, List.nil_append] at h3
  generalize m.r3 = w3 at *
  generalize m.r4 = w4 at *
  generalize m.r5 = w5 at *
  generalize m.r6 = w6 at *
  generalize m.r = w8 at *
  generalize m.r1 = w1 at *
  generalize wrB m.tree = wb at *
  cases hok : m.ok
  ·rw [hok, show okB false = [0] from rfl, show ([0] : List UInt8).length = 1 from rfl] at h3
   rw [oMs_ok hok] at h1
   try simp (disch := omega) only [go_sem, seval] at h1
   rw [avM_ok hok]
   refine Ev_run t_ref14_Write rfl rfl ?_
   by_cases hc : wrC m.tree = 0
   ·rw [hc] at h7
    rw [decide_eq_false (by simp [hc]), Bool.or_false] at h8
    simp (disch := omega) only [go_sem, seval, i_ref14_Write, eI_7, eI_7z, eI_1, eI_s1, eB_ne0, eb0, hc, h1, h3, h4, h5, h6, h7, h8, h9]
   ·rw [decide_eq_true hc, Bool.or_true] at h8
    generalize wrC m.tree = wc at *
    simp (disch := omega) only [go_sem, seval, i_ref14_Write, eI_7, eI_7z, eI_1, eI_s1, eB_ne0, eb0, hc, h1, h3, h4, h5, h6, h7, h8, h9]
  ·rw [hok, show okB true = [1] from rfl, show ([1] : List UInt8).length = 1 from rfl] at h3
   rw [oMs_ok hok] at h1
   try simp (disch := omega) only [go_sem, seval] at h1
   rw [avM_ok hok]
   refine Ev_run t_ref14_Write rfl rfl ?_
   by_cases hc : wrC m.tree = 0
   ·rw [hc] at h7
    rw [decide_eq_false (by simp [hc]), Bool.or_false] at h8
    simp (disch := omega) only [go_sem, seval, i_ref14_Write, eI_7, eI_7z, eI_1, eI_s1, eB_ne1, eb1, hc, h1, h3, h4, h5, h6, h7, h8, h9]
   ·rw [decide_eq_true hc, Bool.or_true] at h8
    generalize wrC m.tree = wc at *
    simp (disch := omega) only [go_sem, seval, i_ref14_Write, eI_7, eI_7z, eI_1, eI_s1, eB_ne1, eb1, hc, h1, h3, h4, h5, h6, h7, h8, h9]
 ·rw [hRW_ne hw] at h1
  generalize m.r3 = w3 at *
  generalize m.r4 = w4 at *
  generalize m.r5 = w5 at *
  generalize m.r6 = w6 at *
  generalize m.r = w8 at *
  generalize m.r1 = w1 at *
  generalize wrB m.tree = wb at *
  cases hok : m.ok
  ·rw [hok, show okB false = [0] from rfl, List.length_append, List.length_singleton] at h3
   rw [oMs_ok hok] at h1
   try simp (disch := omega) only [go_sem, seval] at h1
   rw [avM_ok hok]
   refine Ev_run t_ref14_Write rfl rfl ?_
   by_cases hc : wrC m.tree = 0
   ·rw [hc] at h7
    rw [decide_eq_false (by simp [hc]), Bool.or_false] at h8
    simp (disch := omega) only [go_sem, seval, i_ref14_Write, eI_7, eI_7z, eI_1, eI_s1, eB_ne0, eb0, hc, h1, h3, h4, h5, h6, h7, h8, h9]
   ·rw [decide_eq_true hc, Bool.or_true] at h8
    generalize wrC m.tree = wc at *
    simp (disch := omega) only [go_sem, seval, i_ref14_Write, eI_7, eI_7z, eI_1, eI_s1, eB_ne0, eb0, hc, h1, h3, h4, h5, h6, h7, h8, h9]
  ·rw [hok, show okB true = [1] from rfl, List.length_append, List.length_singleton] at h3
   rw [oMs_ok hok] at h1
   try simp (disch := omega) only [go_sem, seval] at h1
   rw [avM_ok hok]
   refine Ev_run t_ref14_Write rfl rfl ?_
   by_cases hc : wrC m.tree = 0
   ·rw [hc] at h7
    rw [decide_eq_false (by simp [hc]), Bool.or_false] at h8
    simp (disch := omega) only [go_sem, seval, i_ref14_Write, eI_7, eI_7z, eI_1, eI_s1, eB_ne1, eb1, hc, h1, h3, h4, h5, h6, h7, h8, h9]
   ·rw [decide_eq_true hc, Bool.or_true] at h8
    generalize wrC m.tree = wc at *
    simp (disch := omega) only [go_sem, seval, i_ref14_Write, eI_7, eI_7z, eI_1, eI_s1, eB_ne1, eb1, hc, h1, h3, h4, h5, h6, h7, h8, h9]
end Go.Proofs.Ytdgfbfkjdflabaa
namespace Go.Proofs.Ytdgfbfkjdflabaa
open Go.Ev
def mgD : MG := ⟨0, 0, 0, 0, 0, 0, 0, false, [], [], 0, [], ⟨0, [], [], [], []⟩⟩
def mC (m : MG) : List C := [.sc (.int .i64 m.kd), .sc (.int .i64 m.fr), .sc (.int .i64 m.to), .sc (.int .i64 m.tm), .sc (.int .i64 m.ix), .sc (.int .i64 m.lt), .sc (.int .i64 m.cm), .sc (.bool m.ok), .sl (eE m.ents), .sl (eI .i64 m.mem), .sc (.int .i64 m.part), .sl (eB m.root), .sc (.int .i64 m.tree.kind), .sl (eB m.tree.key), .sl (eB m.tree.value), .sl (eB m.tree.digest), .sl (eT m.tree.kids)]
def eMs (l : List MG) : List (List C) := l.map mC
theorem eMs_sz {l : List MG} : szOk 17 (eMs l) = true := by simp [szOk, eMs, mC]
theorem eMs_len {l : List MG} : (eMs l).length = l.length := by simp [eMs]
theorem eMs_get {l : List MG} {i : Nat} (h : i < l.length) : (eMs l)[i]? = some [.sc (.int .i64 (l.getD i mgD).kd), .sc (.int .i64 (l.getD i mgD).fr), .sc (.int .i64 (l.getD i mgD).to), .sc (.int .i64 (l.getD i mgD).tm), .sc (.int .i64 (l.getD i mgD).ix), .sc (.int .i64 (l.getD i mgD).lt), .sc (.int .i64 (l.getD i mgD).cm), .sc (.bool (l.getD i mgD).ok), .sl (eE (l.getD i mgD).ents), .sl (eI .i64 (l.getD i mgD).mem), .sc (.int .i64 (l.getD i mgD).part), .sl (eB (l.getD i mgD).root), .sc (.int .i64 (l.getD i mgD).tree.kind), .sl (eB (l.getD i mgD).tree.key), .sl (eB (l.getD i mgD).tree.value), .sl (eB (l.getD i mgD).tree.digest), .sl (eT (l.getD i mgD).tree.kids)] := by
 simp [eMs, List.getD, h, mC]
attribute [go_sem] eMs_len eMs_sz eMs_get
theorem getD_mem1 {l : List MG} {i : Nat} (h : i < l.length) : l.getD i mgD ∈ l := by
 simp [List.getD, h]
theorem small_in (l : List MG) (hl : l.length ≤ 1048576) (i : Nat) (m : MG) (hd : l.getD i mgD = m) (hi : i < l.length) (hm : m.fit) : ∀ (n k : Nat), n + k = m.ents.length → ∃ r : Bool, L_law21_small_1 (s_law21_small_K1 (.sl true (eMs l)) (i64 i) (i64 k) []) = if r = true then some (.exit 2, s_law21_small_J2 (.sl true (eMs l)) (i64 i) []) else some (.ret, s_law21_small_R (bo false) [])
 | 0, k, h => by
  have hs := sumE_len m.ents
  have := hm.fe
  refine ⟨true, ?_⟩
  rw [if_pos rfl, L_law21_small_1_eq]
  simp (disch := omega) only [go_sem, seval, i_law21_small_b1, hd]
 | n + 1, k, h => by
  have hs := sumE_len m.ents
  have := hm.fe
  obtain ⟨r, ih⟩ := small_in l hl i m hd hi hm n (k + 1) (by omega)
  rw [L_law21_small_1_eq]
  generalize he : m.ents.getD k (0, 0, []) = e at *
  try simp (disch := omega) only [go_sem, seval] at ih
  by_cases hc : 5000 < e.2.2.length
  ·refine ⟨false, ?_⟩
   rw [if_neg (by simp)]
   simp (disch := omega) only [go_sem, seval, i_law21_small_b1, hd, he, hc]
  ·exact ⟨r, by simp (disch := omega) only [go_sem, seval, i_law21_small_b1, hd, he, hc, ih]⟩
theorem small_out (l : List MG) (hl : l.length ≤ 1048576) (hf : ∀ m ∈ l, m.fit) : ∀ (n i : Nat), n + i = l.length → ∃ r : Bool, L_law21_small_0 (s_law21_small_K0 (.sl true (eMs l)) (i64 i) []) = if r = true then some (.exit 0, s_law21_small_J0 []) else some (.ret, s_law21_small_R (bo false) [])
 | 0, i, h => by
  refine ⟨true, ?_⟩
  rw [if_pos rfl, L_law21_small_0_eq]
  simp (disch := omega) only [go_sem, seval, i_law21_small_b0]
 | n + 1, i, h => by
  obtain ⟨r, ih⟩ := small_out l hl hf n (i + 1) (by omega)
  have hm := hf _ (getD_mem1 (l := l) (i := i) (by omega))
  rw [L_law21_small_0_eq]
  generalize hd : l.getD i mgD = m at *
  obtain ⟨r2, ih2⟩ := small_in l hl i m hd (by omega) hm m.ents.length 0 (by omega)
  have h5 := ref04_Light_ev m.tree 50 70 (by omega) (by omega) hm.ft
  rw [avM_tree] at h5
  have hs := sumE_len m.ents
  have h1 := hm.fe
  have h2 := hm.fm
  have h3 := hm.fr
  have e0 : ((0 : Nat) : Int) = 0 := rfl
  rw [e0] at ih2
  generalize m.tree.light 50 70 = lg at *
  try simp (disch := omega) only [go_sem, seval] at ih
  try simp (disch := omega) only [go_sem, seval] at ih2
  by_cases c1 : 20 < m.ents.length
  ·refine ⟨false, ?_⟩
   rw [if_neg (by simp)]
   simp (disch := omega) only [go_sem, seval, i_law21_small_b0, hd, c1]
  by_cases c2 : 20 < m.mem.length
  ·refine ⟨false, ?_⟩
   rw [if_neg (by simp)]
   simp (disch := omega) only [go_sem, seval, i_law21_small_b0, hd, c1, c2]
  by_cases c3 : 100 < m.root.length
  ·refine ⟨false, ?_⟩
   rw [if_neg (by simp)]
   simp (disch := omega) only [go_sem, seval, i_law21_small_b0, hd, c1, c2, c3]
  by_cases c4 : lg < 0
  ·refine ⟨false, ?_⟩
   rw [if_neg (by simp)]
   simp (disch := omega) only [go_sem, seval, i_law21_small_b0, hd, c1, c2, c3, c4, h5]
  cases r2
  ·refine ⟨false, ?_⟩
   rw [if_neg (by simp)] at ih2 ⊢
   simp (disch := omega) only [go_sem, seval, i_law21_small_b0, hd, c1, c2, c3, c4, h5, ih2]
  ·refine ⟨r, ?_⟩
   rw [if_pos rfl] at ih2
   simp (disch := omega) only [go_sem, seval, i_law21_small_b0, hd, c1, c2, c3, c4, h5, ih2, ih]
theorem law21_small_ev (l : List MG) (hl : l.length ≤ 1048576) (hf : ∀ m ∈ l, m.fit) : ∃ r : Bool, (r = true → l.length ≤ 80) ∧ Ev tab G0 n_law21_small [.sl true (eMs l)] [] = some ([bo r], []) := by
 obtain ⟨r, h⟩ := small_out l hl hf l.length 0 (by omega)
 have e0 : ((0 : Nat) : Int) = 0 := rfl
 rw [e0] at h
 by_cases h3 : 80 < l.length
 ·refine ⟨false, (fun h => by cases h), Ev_run t_law21_small rfl rfl ?_⟩
  simp (disch := omega) only [go_sem, seval, i_law21_small]
 ·refine ⟨r, fun _ => by omega, Ev_run t_law21_small rfl rfl ?_⟩
  cases r
  ·rw [if_neg (by simp)] at h
   simp (disch := omega) only [go_sem, seval, i_law21_small, h]
  ·rw [if_pos rfl] at h
   simp (disch := omega) only [go_sem, seval, i_law21_small, h]
def sendM (g : Nat → Bool) : List MG → (Nat → List (List UInt8)) → Nat → Nat × (Nat → List (List UInt8))
 | [], l, n => (n, l)
 | m :: r, l, n => if m.p.endC = 0 ∧ isLine m.fr m.to = true ∧ g (lnIx m.fr m.to) = false ∧ (l (lnIx m.fr m.to)).length < 64 then sendM g r (upd1 l (lnIx m.fr m.to) (l (lnIx m.fr m.to) ++ [m.p.endB])) n else sendM g r l (n + 1)
abbrev hSM (l : Nat → List (List UInt8)) (g : Nat → Bool) (e1 e2 : Nat) : Heap := [none, some (.var [.row 2 64, .row 3 64]), some (.row e1 1 true false (mL l)), some (.row e2 1 true false (mF g))]
theorem send_loop (g : Nat → Bool) (e1 e2 : Nat) (ms : List MG) (hl : ms.length ≤ 80) (hf : ∀ m ∈ ms, m.fit) : ∀ (n i : Nat) (l : Nat → List (List UInt8)) (c : Nat), n + i = ms.length → c ≤ 80 * i → (∀ k, (l k).length ≤ 64) → L_law21_model_send_0 (s_law21_model_send_K0 (.ptr 1 0) (.sl true (eMs ms)) (i64 c) (i64 i) (hSM l g e1 e2)) = some (.exit 0, s_law21_model_send_J0 (i64 (sendM g (ms.drop i) l c).1) (hSM (sendM g (ms.drop i) l c).2 g e1 e2))
 | 0, i, l, c, h, hc, hk => by
  rw [List.drop_of_length_le (by omega), L_law21_model_send_0_eq]
  unfold sendM hSM
  generalize mL l = L at *
  generalize mF g = F at *
  simp (disch := omega) only [go_sem, seval, i_law21_model_send_b0]
 | n + 1, i, l, c, h, hc, hk => by
  rw [drop_step (d := mgD) (by omega), L_law21_model_send_0_eq]
  have hm := hf _ (getD_mem1 (l := ms) (i := i) (by omega))
  generalize hd : ms.getD i mgD = m at *
  have h1 := law21_at_ev m.fr m.to
  have h2 := rWrite_ev m hm
  have h4 := mL_len l
  have h5 := mF_len g
  have hec := endC_cases m.p
  unfold sendM
  unfold avMsg mCells at h2
  cases hln : isLine m.fr m.to
  ·have e : atV m.fr m.to = -1 := if_neg (by rw [hln]; decide)
   rw [e] at h1
   rw [if_neg (fun h => by simp at h)]
   have ih := send_loop g e1 e2 ms hl hf n (i + 1) l (c + 1) (by omega) (by omega) hk
   generalize sendM g (ms.drop (i + 1)) l (c + 1) = z at *
   unfold hSM at *
   generalize mL l = L at *
   generalize mL z.2 = L2 at *
   generalize mF g = F at *
   generalize m.p.endB = eb at *
   generalize m.p.endC = ec at *
   try simp (disch := omega) only [go_sem, seval] at ih
   simp (disch := omega) only [go_sem, seval, i_law21_model_send_b0, hd, h1, h2, ih]
  ·obtain ⟨k1, k2⟩ := lnIx_lt hln
   rw [k2] at h1
   have h6 := mL_get l k1
   have h7 := mF_get g k1
   have hk1 := hk (lnIx m.fr m.to)
   by_cases hc0 : m.p.endC = 0
   ·rw [hc0] at h2
    by_cases hg : g (lnIx m.fr m.to) = true
    ·rw [hg] at h7
     rw [if_neg (fun h => by rw [hg] at h; simp at h)]
     have ih := send_loop g e1 e2 ms hl hf n (i + 1) l (c + 1) (by omega) (by omega) hk
     generalize sendM g (ms.drop (i + 1)) l (c + 1) = z at *
     generalize lnIx m.fr m.to = k at *
     generalize l k = lk at *
     unfold hSM at *
     generalize mL l = L at *
     generalize mL z.2 = L2 at *
     generalize mF g = F at *
     generalize m.p.endB = eb at *
     try simp (disch := omega) only [go_sem, seval] at ih
     simp (disch := omega) only [go_sem, seval, i_law21_model_send_b0, hd, h1, h2, h4, h5, h6, h7, k1, ih]
    ·rw [Bool.not_eq_true] at hg
     rw [hg] at h7
     by_cases h64 : (l (lnIx m.fr m.to)).length < 64
     ·rw [if_pos ⟨hc0, rfl, hg, h64⟩]
      have ih := send_loop g e1 e2 ms hl hf n (i + 1) (upd1 l (lnIx m.fr m.to) (l (lnIx m.fr m.to) ++ [m.p.endB])) c (by omega) (by omega) (fun k => by
       unfold upd1
       split
       ·rw [List.length_append, List.length_singleton]; omega
       ·exact hk k)
      have h8 := mL_set l (lnIx m.fr m.to) (l (lnIx m.fr m.to) ++ [m.p.endB])
      have h9 : eBs (l (lnIx m.fr m.to) ++ [m.p.endB]) = eBs (l (lnIx m.fr m.to)) ++ [[.sl (eB m.p.endB)]] := by simp [eBs]
      rw [h9] at h8
      generalize upd1 l (lnIx m.fr m.to) (l (lnIx m.fr m.to) ++ [m.p.endB]) = l2 at *
      generalize sendM g (ms.drop (i + 1)) l2 c = z at *
      generalize lnIx m.fr m.to = k at *
      have hneg : ¬ ((l k).length : Int) ≥ 64 := by omega
      generalize l k = lk at *
      unfold hSM at *
      generalize mL l = L at *
      generalize mL l2 = L3 at *
      generalize mL z.2 = L2 at *
      generalize mF g = F at *
      generalize m.p.endB = eb at *
      try simp (disch := omega) only [go_sem, seval] at ih
      simp (disch := omega) only [go_sem, seval, i_law21_model_send_b0, hd, h1, h2, h4, h5, h6, h7, h8, k1, eBs_len, eBs_sz, hneg, ih]
     ·rw [if_neg (fun h => h64 h.2.2.2)]
      have ih := send_loop g e1 e2 ms hl hf n (i + 1) l (c + 1) (by omega) (by omega) hk
      generalize sendM g (ms.drop (i + 1)) l (c + 1) = z at *
      generalize lnIx m.fr m.to = k at *
      have hpos : ((l k).length : Int) ≥ 64 := by omega
      generalize l k = lk at *
      unfold hSM at *
      generalize mL l = L at *
      generalize mL z.2 = L2 at *
      generalize mF g = F at *
      generalize m.p.endB = eb at *
      try simp (disch := omega) only [go_sem, seval] at ih
      simp (disch := omega) only [go_sem, seval, i_law21_model_send_b0, hd, h1, h2, h4, h5, h6, h7, k1, eBs_len, hpos, ih]
   ·rw [if_neg (fun h => hc0 h.1)]
    have ih := send_loop g e1 e2 ms hl hf n (i + 1) l (c + 1) (by omega) (by omega) hk
    generalize sendM g (ms.drop (i + 1)) l (c + 1) = z at *
    generalize lnIx m.fr m.to = k at *
    generalize l k = lk at *
    unfold hSM at *
    generalize mL l = L at *
    generalize mL z.2 = L2 at *
    generalize mF g = F at *
    generalize m.p.endB = eb at *
    have hce : (m.p.endC == 0) = false := by simpa using hc0
    generalize m.p.endC = ec at *
    try simp (disch := omega) only [go_sem, seval] at ih
    simp (disch := omega) only [go_sem, seval, i_law21_model_send_b0, hd, h1, h2, hce, hc0, ih]
theorem law21_send_ev (g : Nat → Bool) (e1 e2 : Nat) (ol oo : Bool) (l : Nat → List (List UInt8)) (ms : List MG) (hl : ms.length ≤ 80) (hf : ∀ m ∈ ms, m.fit) (hk : ∀ k, (l k).length ≤ 64) : Ev tab G0 n_law21_model_send [.ptr 0 0, .sl true (eMs ms)] [oM, .row e1 1 ol false (mL l), .row e2 1 oo false (mF g)] = some ([i64 (sendM g ms l 0).1], [oM, .row e1 1 true false (mL (sendM g ms l 0).2), .row e2 1 true false (mF g)]) := by
 have h := send_loop g e1 e2 ms hl hf ms.length 0 l 0 (by omega) (by omega) hk
 rw [List.drop_zero] at h
 generalize sendM g ms l 0 = z at *
 unfold hSM at h
 generalize mL l = L at *
 generalize mL z.2 = L2 at *
 generalize mF g = F at *
 have e0 : ((0 : Nat) : Int) = 0 := rfl
 rw [e0] at h
 refine Ev_run t_law21_model_send rfl rfl ?_
 simp (disch := omega) only [go_sem, seval, i_law21_model_send, h]
end Go.Proofs.Ytdgfbfkjdflabaa
