/-
  A net's Take; the law's alike.
-/
import Derived.Test.YtdgfbfkjdflabaaLWr
import Derived.Test.YtdgfbfkjdflabaaLRdr9a
import Derived.Test.YtdgfbfkjdflabaaOk
import Derived.Test.YtdgfbfkjdflabaaEvE
import Derived.Test.YtdgfbfkjdflabaaRows
set_option linter.unusedSimpArgs false
set_option linter.unusedVariables false
set_option maxRecDepth 200000
set_option maxHeartbeats 4000000
namespace Go.Proofs.Ytdgfbfkjdflabaa
open Go.Ev
theorem eBs_erase : ∀ (ms : List (List UInt8)) (i : Nat), (eBs ms).eraseIdx i = eBs (ms.eraseIdx i)
 | [], i => rfl
 | m :: ms, 0 => rfl
 | m :: ms, i + 1 => by
  show [C.sl (eB m)] :: (eBs ms).eraseIdx i = [C.sl (eB m)] :: eBs (ms.eraseIdx i)
  rw [eBs_erase ms i]
theorem net_Net_Take_err (l : Nat → Option (List (List UInt8))) (g : Nat → Bool) (f t i n : Int) (h : Ev tab G0 n_net_Net_at [.ptr 0 0, i64 f, i64 t, i64 i] [oN, oL l, oF g] = some ([.sl true [], eV n], [oN, oL l, oF g])) : Ev tab G0 n_net_Net_Take [.ptr 0 0, i64 f, i64 t, i64 i] [oN, oL l, oF g] = some ([avMsg MG.no, eV n], [oN, oL l, oF g]) := by
 refine Ev_run t_net_Net_Take rfl rfl ?_
 simp (disch := omega) only [go_sem, seval, i_net_Net_Take, h]
 rfl
theorem net_Net_Take_ev (l : Nat → Option (List (List UInt8))) (g : Nat → Bool) (f t : Int) (i : Nat) (ms : List (List UInt8)) (m : MG) (hl : isLine f t = true) (hm : (l (lnIx f t)).getD [] = ms) (hi : i < ms.length) (h64 : ms.length ≤ 64) (hr : Ev tab G0 n_entry_Read [.sl true (eB (ms.getD i []))] [] = some ([avMsg m, .s .nilIface], [])) : Ev tab G0 n_net_Net_Take [.ptr 0 0, i64 f, i64 t, i64 i] [oN, oL l, oF g] = some ([avMsg m, .s .nilIface], [oN, oL (upd1 l (lnIx f t) (some (ms.eraseIdx i))), oF g]) := by
 refine Ev_run t_net_Net_Take rfl rfl ?_
 have h1 := net_Net_at_ev l g f t i ms hl hm hi
 have h2 := clone_rows_ev ms (by intro h; subst h; simp at hi) (by omega)
 have h3 := x_del ms.length i 29 true (eBs ms) hi (eBs_len ms).symm (by omega)
 have h4 := x_upd l f t (ms.length - 1) 29 true (ms.eraseIdx i) hl (by rw [List.length_eraseIdx, if_pos hi])
 have h5 := eBs_erase ms i
 have h6 := eBs_get hi
 rw [← h5] at h4
 unfold avMsg mCells at hr ⊢
 generalize ms.getD i [] = b at *
 simp (disch := omega) only [go_sem, seval, i_net_Net_Take, h1, h2, eBs_len, h3, h4, h6, hi, hr, eBs_sz]
abbrev oM3 : Ev.Obj := .var [.row 4 64, .row 5 64]
abbrev hAl (l : Nat → Option (List (List UInt8))) (g : Nat → Bool) (e1 e2 : Nat) (ol oo : Bool) : Heap := [some oN, some (oL l), some (oF g), some oM3, some (.row e1 1 ol false (mL fun k => (l k).getD [])), some (.row e2 1 oo false (mF g))]
theorem alike_in (l : Nat → Option (List (List UInt8))) (g : Nat → Bool) (e1 e2 : Nat) (i : Int) (hi : 0 ≤ i ∧ i ≤ 8) (hk : ∀ k, ((l k).getD []).length ≤ 64) : ∀ (n k : Nat), n + k = 9 → L_law21_alike_1 (s_law21_alike_K1 (.ptr 0 0) (.ptr 3 0) (i64 i) (i64 k) (hAl l g e1 e2 true true)) = some (.exit 2, s_law21_alike_J2 (.ptr 0 0) (.ptr 3 0) (i64 i) (hAl l g e1 e2 true true))
 | 0, k, h => by
  have hk9 : k = 9 := by omega
  subst hk9
  rw [L_law21_alike_1_eq]
  have e9 : ((9 : Nat) : Int) = 9 := rfl
  rw [e9]
  unfold hAl
  generalize mL (fun k => (l k).getD []) = L at *
  generalize mF g = F at *
  simp (disch := omega) only [go_sem, seval, i_law21_alike_b1]
 | n + 1, k, h => by
  have ih := alike_in l g e1 e2 i hi hk n (k + 1) (by omega)
  rw [L_law21_alike_1_eq]
  have h1 := law21_at_ev i k
  have hc8 : (k : Int) ≤ 8 := by omega
  have ini : inI i = true ∧ inI (k : Int) = true := by
   simp only [inI, decide_eq_true_eq]
   omega
  have h2 := net_Net_Len_ev l g i k ini.1 ini.2
  have h3 := net_Net_Cut_ev l g i k ini.1 ini.2
  have h4 := mL_len (fun k => (l k).getD [])
  have h5 := mF_len g
  cases hln : isLine i k
  ·have e : atV i k = -1 := if_neg (by rw [hln]; decide)
   rw [e] at h1
   rw [hln] at h2 h3
   rw [if_neg (by decide)] at h2
   rw [Bool.not_false, Bool.true_or] at h3
   unfold hAl at *
   generalize mL (fun k => (l k).getD []) = L at *
   generalize mF g = F at *
   try simp (disch := omega) only [go_sem, seval] at ih
   simp (disch := omega) only [go_sem, seval, i_law21_alike_b1, h1, h2, h3, hc8, ih]
  ·obtain ⟨k1, k2⟩ := lnIx_lt hln
   have hk2 := hk (lnIx i k)
   rw [k2] at h1
   rw [hln] at h2 h3
   rw [if_pos rfl] at h2
   rw [Bool.not_true, Bool.false_or] at h3
   have h6 := mL_get (fun k => (l k).getD []) k1
   have h7 := mF_get g k1
   unfold hAl at *
   generalize lnIx i k = j at *
   generalize (l j).getD [] = ms at *
   generalize mL (fun k => (l k).getD []) = L at *
   generalize mF g = F at *
   have hq : ((ms.length : Int) == (ms.length : Int)) = true := by simp
   try simp (disch := omega) only [go_sem, seval] at ih
   cases hg : g j
   ·rw [hg] at h3 h7
    simp (disch := omega) only [go_sem, seval, i_law21_alike_b1, h1, h2, h3, h4, h5, h6, h7, k1, hc8, eBs_len, hq, ih]
   ·rw [hg] at h3 h7
    simp (disch := omega) only [go_sem, seval, i_law21_alike_b1, h1, h2, h3, h4, h5, h6, h7, k1, hc8, eBs_len, hq, ih]
theorem alike_out (l : Nat → Option (List (List UInt8))) (g : Nat → Bool) (e1 e2 : Nat) (hk : ∀ k, ((l k).getD []).length ≤ 64) : ∀ (n i : Nat), n + i = 9 → L_law21_alike_0 (s_law21_alike_K0 (.ptr 0 0) (.ptr 3 0) (i64 i) (hAl l g e1 e2 true true)) = some (.exit 0, s_law21_alike_J0 (hAl l g e1 e2 true true))
 | 0, i, h => by
  have hk9 : i = 9 := by omega
  subst hk9
  rw [L_law21_alike_0_eq]
  have e9 : ((9 : Nat) : Int) = 9 := rfl
  rw [e9]
  unfold hAl
  generalize mL (fun k => (l k).getD []) = L at *
  generalize mF g = F at *
  simp (disch := omega) only [go_sem, seval, i_law21_alike_b0]
 | n + 1, i, h => by
  have ih := alike_out l g e1 e2 hk n (i + 1) (by omega)
  have h1 := alike_in l g e1 e2 i (by omega) hk 9 0 (by omega)
  have hc8 : (i : Int) ≤ 8 := by omega
  rw [L_law21_alike_0_eq]
  have e0 : ((0 : Nat) : Int) = 0 := rfl
  rw [e0] at h1
  unfold hAl at *
  generalize mL (fun k => (l k).getD []) = L at *
  generalize mF g = F at *
  try simp (disch := omega) only [go_sem, seval] at ih
  try simp (disch := omega) only [go_sem, seval] at h1
  simp (disch := omega) only [go_sem, seval, i_law21_alike_b0, hc8, h1, ih]
theorem law21_alike_ev (l : Nat → Option (List (List UInt8))) (g : Nat → Bool) (e1 e2 : Nat) (ol oo : Bool) (hk : ∀ k, ((l k).getD []).length ≤ 64) : Ev tab G0 n_law21_alike [.ptr 0 0, .ptr 3 0] [oN, oL l, oF g, oM3, .row e1 1 ol false (mL fun k => (l k).getD []), .row e2 1 oo false (mF g)] = some ([bo true], [oN, oL l, oF g, oM3, .row e1 1 true false (mL fun k => (l k).getD []), .row e2 1 true false (mF g)]) := by
 have h := alike_out l g e1 e2 hk 9 0 (by omega)
 have e0 : ((0 : Nat) : Int) = 0 := rfl
 rw [e0] at h
 unfold hAl at h
 generalize mL (fun k => (l k).getD []) = L at *
 generalize mF g = F at *
 refine Ev_run t_law21_alike rfl rfl ?_
 simp (disch := omega) only [go_sem, seval, i_law21_alike, h]
end Go.Proofs.Ytdgfbfkjdflabaa
namespace Go.Proofs.Ytdgfbfkjdflabaa
open Go.Ev
theorem cnt_b {q : Rq} (h : q.bad = true) : q.cnt.2.bad = true := by
 unfold Rq.cnt
 split
 ·rfl
 ·exact h
theorem no_b {q : Rq} (h : q.bad = true) : q.no = true := by
 unfold Rq.no; rw [h]; rfl
theorem mems_b {q : Rq} (h : q.bad = true) : q.mems.2.bad = true := by
 unfold Rq.mems
 rw [qmem_no (no_b (cnt_b h))]
 exact cnt_b h
theorem ents_b {q : Rq} (h : q.bad = true) : q.ents.2.bad = true := by
 unfold Rq.ents
 rw [qent_no (no_b (cnt_b h))]
 exact cnt_b h
theorem fn_b {q : Rq} (h : ¬ q.fn = 3) : q.bad = false := by
 cases hb : q.bad
 ·rfl
 ·unfold Rq.fn at h
  rw [if_pos (no_b hb)] at h
  exact absurd rfl h
theorem good_b {a b : Bool} (h : a = true → b = true) (hb : b = false) : a = false := by
 cases a
 ·rfl
 ·rw [h rfl] at hb; cases hb
theorem Read_chain0 (b : List UInt8) (hl : ¬ 1048576 < b.length) (p1 p2 p3 p4 p5 p6 p7 p8 : Int × Rq) (p9 : List Ent × Rq) (p10 : List Int × Rq) (p11 : Int × Rq) (p12 : List UInt8 × Rq) (p13 : T × Rq)
  (e1 : p1 = (q0 b).cnt) (e2 : p2 = p1.2.cnt) (e3 : p3 = p2.2.cnt) (e4 : p4 = p3.2.cnt) (e5 : p5 = p4.2.cnt) (e6 : p6 = p5.2.cnt) (e7 : p7 = p6.2.cnt) (e8 : p8 = p7.2.byt) (e9 : p9 = p8.2.ents) (e10 : p10 = p9.2.mems) (e11 : p11 = p10.2.cnt) (e12 : p12 = p11.2.bys 32) (e13 : p13 = p12.2.tre) (h0f : p13.2.fn = 0) :
  Ev tab G0 n_entry_Read [.sl true (eB b)] [] = some ([avMsg (if p13.2.fn = 0 then ⟨p1.1, p2.1, p3.1, p4.1, p5.1, p6.1, p7.1, decide (p8.1 = 1), p9.1, p10.1, p11.1, p12.1, p13.1⟩ else MG.no), errV p13.2.fn], []) := by
 have h0 := coder_NewReader_ev b (by omega)
 have h1 : Ev tab G0 n_entry_reader_count [.ptr 0 0] [oQ 1 false, rO ⟨b, false⟩] = some ([i64 p1.1], inQ p1.2) := by rw [e1]; exact qcount_ev (q0 b) (by simp only [q0]; omega)
 have l1 : p1.2.r.b.length ≤ b.length := by rw [e1]; exact (q0 b).cnt_le.1
 have h2 : Ev tab G0 n_entry_reader_count [.ptr 0 0] (inQ p1.2) = some ([i64 p2.1], inQ p2.2) := by rw [e2]; exact qcount_ev p1.2 (by omega)
 have l2 : p2.2.r.b.length ≤ p1.2.r.b.length := by rw [e2]; exact p1.2.cnt_le.1
 have h3 : Ev tab G0 n_entry_reader_count [.ptr 0 0] (inQ p2.2) = some ([i64 p3.1], inQ p3.2) := by rw [e3]; exact qcount_ev p2.2 (by omega)
 have l3 : p3.2.r.b.length ≤ p2.2.r.b.length := by rw [e3]; exact p2.2.cnt_le.1
 have h4 : Ev tab G0 n_entry_reader_count [.ptr 0 0] (inQ p3.2) = some ([i64 p4.1], inQ p4.2) := by rw [e4]; exact qcount_ev p3.2 (by omega)
 have l4 : p4.2.r.b.length ≤ p3.2.r.b.length := by rw [e4]; exact p3.2.cnt_le.1
 have h5 : Ev tab G0 n_entry_reader_count [.ptr 0 0] (inQ p4.2) = some ([i64 p5.1], inQ p5.2) := by rw [e5]; exact qcount_ev p4.2 (by omega)
 have l5 : p5.2.r.b.length ≤ p4.2.r.b.length := by rw [e5]; exact p4.2.cnt_le.1
 have h6 : Ev tab G0 n_entry_reader_count [.ptr 0 0] (inQ p5.2) = some ([i64 p6.1], inQ p6.2) := by rw [e6]; exact qcount_ev p5.2 (by omega)
 have l6 : p6.2.r.b.length ≤ p5.2.r.b.length := by rw [e6]; exact p5.2.cnt_le.1
 have h7 : Ev tab G0 n_entry_reader_count [.ptr 0 0] (inQ p6.2) = some ([i64 p7.1], inQ p7.2) := by rw [e7]; exact qcount_ev p6.2 (by omega)
 have l7 : p7.2.r.b.length ≤ p6.2.r.b.length := by rw [e7]; exact p6.2.cnt_le.1
 have h8 := coder_Byte_k p7.2.r (by omega)
 have l8 : p8.2.r.b.length ≤ p7.2.r.b.length := by rw [e8]; exact p7.2.r.byte_le
 have h9 : Ev tab G0 n_entry_reader_entries [.ptr 0 0] (inQ p8.2) = some ([.sl true (eE p9.1)], inQ p9.2) := by rw [e9]; exact qents_ev p8.2 (by omega)
 have l9 : p9.2.r.b.length ≤ p8.2.r.b.length := by rw [e9]; exact p8.2.ents_le.1
 have m9 : p8.2.bad = true → p9.2.bad = true := fun h => by rw [e9]; exact ents_b h
 have h10 : Ev tab G0 n_entry_reader_members [.ptr 0 0] (inQ p9.2) = some ([.sl true (eI .i64 p10.1)], inQ p10.2) := by rw [e10]; exact qmems_ev p9.2 (by omega)
 have l10 : p10.2.r.b.length ≤ p9.2.r.b.length := by rw [e10]; exact p9.2.mems_le.1
 have m10 : p9.2.bad = true → p10.2.bad = true := fun h => by rw [e10]; exact mems_b h
 have h11 : Ev tab G0 n_entry_reader_count [.ptr 0 0] (inQ p10.2) = some ([i64 p11.1], inQ p11.2) := by rw [e11]; exact qcount_ev p10.2 (by omega)
 have l11 : p11.2.r.b.length ≤ p10.2.r.b.length := by rw [e11]; exact p10.2.cnt_le.1
 have m11 : p10.2.bad = true → p11.2.bad = true := fun h => by rw [e11]; exact cnt_b h
 have h12 : Ev tab G0 n_coder_Reader_Bytes [.ptr 0 0, i64 32] [rO p11.2.r] = some ([.sl true (eB p12.1)], [rO p12.2.r]) := by rw [e12]; exact coder_ReaderBytes_ev p11.2.r 32 (by omega) (by omega)
 have b12 : p12.2.bad = p11.2.bad := by rw [e12]; rfl
 have l12 : p12.2.r.b.length ≤ p11.2.r.b.length := by rw [e12]; exact p11.2.r.bytes_le 32
 have h13 := coder_ReaderBytes_ev p12.2.r 1048576 (by omega) (by omega)
 have l13 := bytes_take p12.2.r 1048576
 have h14 := code_Read_ev (p12.2.r.bytes 1048576).1 (by omega)
 have l14 : p13.2.r.b.length ≤ p12.2.r.b.length := by rw [e13]; exact p12.2.r.bytes_le 1048576
 have h15 : Ev tab G0 n_entry_reader_end [.ptr 0 0] (inQ p13.2) = some ([errV p13.2.fn], inQ p13.2) := qend_ev p13.2 (by omega)
 have m13 : ¬ p13.2.fn = 3 → p13.2.bad = false := fn_b
 have m8 : p11.2.bad = false → p8.2.bad = false := fun h => good_b m9 (good_b m10 (good_b m11 h))
 generalize hff : p13.2.fn = f at *
 clear hff
 clear e1 e2 e3 e4 e5 e6 e7 e9 e10 e11 e12 l1 l2 l3 l4 l5 l6 l7 l8 l9 l10 l11 l12 l13 l14 m9 m10 m11
 have e8a : p8.1 = p7.2.r.kd := by rw [e8]; rfl
 have e8b : p8.2 = ⟨p7.2.r.byte.2, p7.2.bad || decide (1 < p7.2.r.kd)⟩ := by rw [e8]; rfl
 have e13a : p13.1 = rdV (p12.2.r.bytes 1048576).1 := by rw [e13]; rfl
 have e13b : p13.2 = ⟨(p12.2.r.bytes 1048576).2, p12.2.bad || decide (¬ rdC (p12.2.r.bytes 1048576).1 = 0)⟩ := by rw [e13]; rfl
 clear e8 e13
 rw [e8b] at h9 m8
 rw [e13b] at h15 m13
 rw [e13a]
 clear e8b e13a e13b
 generalize p8.1 = x8 at *
 subst e8a
 generalize p7.2.r.kd = kd at *
 generalize p7.2.r.byte.2 = r8 at *
 generalize p12.2.r.bytes 1048576 = z at *
 generalize z.1 = x13 at *
 generalize z.2 = r13 at *
 generalize rdV x13 = t at *
 generalize rdC x13 = c at *
 obtain ⟨x1, q1⟩ := p1
 obtain ⟨x2, q2⟩ := p2
 obtain ⟨x3, q3⟩ := p3
 obtain ⟨x4, q4⟩ := p4
 obtain ⟨x5, q5⟩ := p5
 obtain ⟨x6, q6⟩ := p6
 obtain ⟨x7, ⟨r7, d7⟩⟩ := p7
 obtain ⟨x9, q9⟩ := p9
 obtain ⟨x10, q10⟩ := p10
 obtain ⟨x11, ⟨r11, d11⟩⟩ := p11
 obtain ⟨x12, ⟨r12, d12⟩⟩ := p12
 simp only at *
 subst b12
 subst h0f
 rw [avT] at h14
 have a := m13 (by decide)
 rw [Bool.or_eq_false_iff, decide_eq_false_iff_not, Decidable.not_not] at a
 obtain ⟨rfl, rfl⟩ := a
 have a := m8 rfl
 rw [Bool.or_eq_false_iff, decide_eq_false_iff_not] at a
 obtain ⟨rfl, hk⟩ := a
 rw [if_pos rfl, errV, if_pos rfl] at *
 rw [decide_eq_false hk] at h9
 exact Rc_false_lt_false_0_0 b hl _ _ _ _ _ _ _ _ _ _ _ _ _ _ _ _ _ _ _ _ _ _ _ _ _ _ _ hk h0 h1 h2 h3 h4 h5 h6 h7 h8 h9 h10 h11 h12 h13 h14 h15
def G1 (b : List UInt8) : Int × Rq := (q0 b).cnt
def G2 (b : List UInt8) : Int × Rq := (G1 b).2.cnt
def G3 (b : List UInt8) : Int × Rq := (G2 b).2.cnt
def G4 (b : List UInt8) : Int × Rq := (G3 b).2.cnt
def G5 (b : List UInt8) : Int × Rq := (G4 b).2.cnt
def G6 (b : List UInt8) : Int × Rq := (G5 b).2.cnt
def G7 (b : List UInt8) : Int × Rq := (G6 b).2.cnt
def G8 (b : List UInt8) : Int × Rq := (G7 b).2.byt
def G9 (b : List UInt8) : List Ent × Rq := (G8 b).2.ents
def G10 (b : List UInt8) : List Int × Rq := (G9 b).2.mems
def G11 (b : List UInt8) : Int × Rq := (G10 b).2.cnt
def G12 (b : List UInt8) : List UInt8 × Rq := (G11 b).2.bys 32
def G13 (b : List UInt8) : T × Rq := (G12 b).2.tre
def qMsg (b : List UInt8) : MG := ⟨(G1 b).1, (G2 b).1, (G3 b).1, (G4 b).1, (G5 b).1, (G6 b).1, (G7 b).1, decide ((G8 b).1 = 1), (G9 b).1, (G10 b).1, (G11 b).1, (G12 b).1, (G13 b).1⟩
def msC (b : List UInt8) : Int := if 1048576 < b.length then 2 else (G13 b).2.fn
def msV (b : List UInt8) : MG := if msC b = 0 then qMsg b else MG.no
theorem Read_good (b : List UInt8) (h : msC b = 0) : Ev tab G0 n_entry_Read [.sl true (eB b)] [] = some ([avMsg (msV b), .s .nilIface], []) := by
 by_cases hl : 1048576 < b.length
 ·have e1 : msC b = 2 := if_pos hl
  rw [e1] at h; cases h
 ·have e1 : msC b = (G13 b).2.fn := if_neg hl
  have e2 : msV b = qMsg b := if_pos h
  rw [e1] at h
  have := Read_chain0 b hl (G1 b) (G2 b) (G3 b) (G4 b) (G5 b) (G6 b) (G7 b) (G8 b) (G9 b) (G10 b) (G11 b) (G12 b) (G13 b) rfl rfl rfl rfl rfl rfl rfl rfl rfl rfl rfl rfl rfl h
  rw [h, if_pos rfl, errV, if_pos rfl] at this
  rw [e2]
  exact this
end Go.Proofs.Ytdgfbfkjdflabaa
namespace Go.Proofs.Ytdgfbfkjdflabaa
open Go.Ev
theorem beB_cons : ∀ (f : Nat) (v : Int), beB (f + 1) v = byt (v / 256 ^ f) :: beB f v := by
 intro f
 induction f with
 | zero => intro v; simp [beB]
 | succ f ih =>
  intro v
  rw [beB, ih (v / 256), beB]
  have : v / 256 / 256 ^ f = v / 256 ^ (f + 1) := by
   rw [Int.ediv_ediv_of_nonneg (by decide)]
   congr 1
   rw [Int.pow_succ, Int.mul_comm]
  simp [this]
theorem beV_beB : ∀ (k : Nat) (v : Int), 0 ≤ v → v < 256 ^ k → beV (beB k v) = v
 | 0, v, h0, h1 => by
  simp at h1
  obtain rfl : v = 0 := by omega
  rfl
 | k + 1, v, h0, h1 => by
  have : v < 256 ^ k * 256 := by rw [← Int.pow_succ]; exact h1
  rw [beB, beV_snoc, beV_beB k (v / 256) (by omega) (by omega), toNat_byt]
  omega
theorem nby_spec : ∀ (k : Nat) (v : Int), 0 < v → v < 256 ^ k → ∃ m, nby k v = m + 1 ∧ 256 ^ m ≤ v ∧ v < 256 ^ (m + 1)
 | 0, v, h0, h1 => by simp at h1; omega
 | k + 1, v, h0, h1 => by
  have h2 : v < 256 ^ k * 256 := by rw [← Int.pow_succ]; exact h1
  simp only [nby]
  rw [if_neg (by omega)]
  by_cases hv : v / 256 = 0
  ·refine ⟨0, ?_, by simp; omega, by simp; omega⟩
   rw [hv]
   cases k <;> simp [nby]
  ·obtain ⟨m, e, h3, h4⟩ := nby_spec k (v / 256) (by omega) (by omega)
   refine ⟨m + 1, by rw [e], ?_, ?_⟩
   ·rw [Int.pow_succ]; omega
   ·rw [Int.pow_succ]; omega
theorem byt_small {n : Int} (h : 0 ≤ n ∧ n < 256) : ((byt n).toNat : Int) = n := by
 rw [toNat_byt]; omega
theorem read_num (v : Int) (h : 0 ≤ v ∧ v < 18446744073709551616) (rest : List UInt8) : Rd.num ⟨num v ++ rest, false⟩ = (v, ⟨rest, false⟩) := by
 have hb : ∀ (b : UInt8) (l : List UInt8), Rd.byte ⟨b :: l, false⟩ = (b, ⟨l, false⟩) := fun b l => by
  simp only [Rd.byte, Rd.take, Bool.false_eq_true, if_false, List.length_cons]
  rw [if_neg (by omega)]
  rfl
 unfold num
 by_cases hv : v ≤ 247
 ·rw [if_pos hv, List.cons_append, List.nil_append]
  have h1 := byt_small (n := v) (by omega)
  simp only [Rd.num, hb]
  rw [if_pos (by omega), h1]
 ·rw [if_neg hv, List.cons_append]
  obtain ⟨m, e, h3, h4⟩ := nby_spec 8 v (by omega) (by omega)
  have hm := nby_le 8 v
  have h1 := byt_small (n := 247 + nby 8 v) (by omega)
  simp only [Rd.num, hb]
  rw [if_neg (by omega)]
  have hn : ((byt (247 + nby 8 v)).toNat : Int) - 247 = nby 8 v := by omega
  have ht : Rd.take ⟨beB (nby 8 v) v ++ rest, false⟩ ((byt (247 + nby 8 v)).toNat - 247) = (beB (nby 8 v) v, ⟨rest, false⟩) := by
   rw [hn]
   have hl := beB_len (nby 8 v) v
   simp only [Rd.take, Bool.false_eq_true, if_false, List.length_append, hl]
   rw [if_neg (by omega), Int.toNat_natCast, List.take_left' hl, List.drop_left' hl]
  rw [ht]
  have hV := beV_beB (nby 8 v) v h.1 (by rw [e]; exact h4)
  simp only [hV]
  rw [if_neg]
  rw [e, beB_cons]
  have hq : 1 ≤ v / 256 ^ m ∧ v / 256 ^ m < 256 := by
   have hp : (0 : Int) < 256 ^ m := Int.pow_pos (by decide)
   refine ⟨?_, ?_⟩
   ·rw [Int.le_ediv_iff_mul_le hp]; omega
   ·rw [Int.ediv_lt_iff_lt_mul hp, Int.mul_comm, ← Int.pow_succ]; exact h4
  have h5 := byt_small (n := v / 256 ^ m) (by omega)
  simp only [List.length_cons, List.getD_cons_zero]
  rintro (hh | hh | hh)
  ·omega
  ·rw [hh] at h5; simp at h5; omega
  ·omega
theorem read_byts (b : List UInt8) (hb : b.length ≤ 1073741824) (most : Int) (hm : b.length ≤ most) (rest : List UInt8) : Rd.bytes ⟨byts b ++ rest, false⟩ most = (b, ⟨rest, false⟩) := by
 have h := read_num b.length (by omega) (b ++ rest)
 simp only [Rd.bytes, byts, List.append_assoc, h, Bool.false_eq_true, false_or, List.length_append]
 rw [if_neg (by omega)]
 simp only [Rd.take, Bool.false_eq_true, if_false, List.length_append]
 rw [if_neg (by omega), Int.toNat_natCast, List.take_left' rfl, List.drop_left' rfl]
end Go.Proofs.Ytdgfbfkjdflabaa
namespace Go.Proofs.Ytdgfbfkjdflabaa
open Go.Ev
theorem byte_cons (k : UInt8) (rest : List UInt8) : Rd.byte ⟨k :: rest, false⟩ = (k, ⟨rest, false⟩) := by
 simp [Rd.byte, Rd.take]
 rw [if_neg (by omega)]
 simp
theorem rd_wr : ∀ t : T, t.formed = true → ∀ (d : Nat) (rest : List UInt8), d ≤ 64 → t.size ≤ 1048576 → t.long = false → t.deep d = false → rdT d ⟨t.wr ++ rest, false⟩ false = (t, ⟨rest, false⟩, false) := F_ind
 (fun t hf h0 d rest hd hs hg hdp => by
  have ho := hd_kind hf
  have hz := size_eq t
  unfold okT at ho
  rw [h0] at ho
  simp only [List.length_nil] at ho
  rw [long_eq] at hg
  simp only [Bool.or_eq_false_iff, decide_eq_false_iff_not] at hg
  rw [wr_nil h0]
  have hk : t.kind = 0 ∨ t.kind = 3 := by omega
  rcases hk with hk | hk
  ·have e := byte_cons (byt 0) rest
   have hkd : Rd.kd ⟨byt 0 :: rest, false⟩ = 0 := by unfold Rd.kd; rw [e]; rfl
   have n1 : t.key = [] := List.length_eq_zero_iff.1 (by omega)
   have n2 : t.value = [] := List.length_eq_zero_iff.1 (by omega)
   have n3 : t.digest = [] := List.length_eq_zero_iff.1 (by omega)
   unfold hdB
   rw [hk, if_neg (by omega), if_neg (by omega), if_neg (by omega)]
   show rdT d ⟨byt 0 :: rest, false⟩ false = _
   rw [rdT_z d false (.inl hkd), hdT_z hkd, hkd, e]
   conv => rhs; rw [← T_eta t, hk, n1, n2, n3, h0]
  ·have e := byte_cons (byt 3) (byts t.digest ++ rest)
   have hkd : Rd.kd ⟨byt 3 :: (byts t.digest ++ rest), false⟩ = 3 := by unfold Rd.kd; rw [e]; rfl
   have n1 : t.key = [] := List.length_eq_zero_iff.1 (by omega)
   have n2 : t.value = [] := List.length_eq_zero_iff.1 (by omega)
   have hr := read_byts t.digest (by omega) 32 (by omega) rest
   unfold hdB
   rw [hk, if_neg (by omega), if_neg (by omega), if_pos rfl]
   show rdT d ⟨byt 3 :: (byts t.digest ++ rest), false⟩ false = _
   rw [rdT_z d false (.inr hkd), hdT_3 hkd, e]
   simp only
   rw [hr]
   conv => rhs; rw [← T_eta t, hk, n1, n2, h0])
 fun t l r hf h0 hl hr il ir d rest hd hs hg hdp => by
  have ho := hd_kind hf
  have hz := size_two h0
  unfold okT at ho
  rw [h0] at ho
  simp only [List.length_cons, List.length_nil] at ho
  rw [long_eq, h0, longL_cons, longL_cons, longL_nil] at hg
  simp only [Bool.or_eq_false_iff, decide_eq_false_iff_not] at hg
  have hk : t.kind = 1 ∨ t.kind = 2 := by omega
  rw [deep_eq, h0] at hdp
  cases d with
  | zero =>
   rw [if_pos (by refine ⟨by omega, rfl⟩)] at hdp
   cases hdp
  | succ d =>
   rw [if_neg (by omega)] at hdp
   simp only [deepL, Bool.or_eq_false_iff] at hdp
   have ed : ((d + 1 : Nat) : Int) - 1 = d := by omega
   rw [ed] at hdp
   have i1 := il d (r.wr ++ rest) (by omega) (by omega) hg.2.1 hdp.1
   have i2 := ir d rest (by omega) (by omega) hg.2.2.1 hdp.2.1
   rw [wr_two h0]
   rcases hk with hk | hk
   ·have n3 : t.digest = [] := List.length_eq_zero_iff.1 (by omega)
    have e := byte_cons (byt 1) (byts t.key ++ (byts t.value ++ (l.wr ++ (r.wr ++ rest))))
    have hkd : Rd.kd ⟨byt 1 :: (byts t.key ++ (byts t.value ++ (l.wr ++ (r.wr ++ rest)))), false⟩ = 1 := by unfold Rd.kd; rw [e]; rfl
    have r1 := read_byts t.key (by omega) 80 (by omega) (byts t.value ++ (l.wr ++ (r.wr ++ rest)))
    have r2 := read_byts t.value (by omega) 1024 (by omega) (l.wr ++ (r.wr ++ rest))
    have hh : hdT ⟨byt 1 :: (byts t.key ++ (byts t.value ++ (l.wr ++ (r.wr ++ rest)))), false⟩ = (.mk 1 t.key t.value [] [], ⟨l.wr ++ (r.wr ++ rest), false⟩) := by
     rw [hdT_1 hkd, e]
     simp only [r1, r2]
    unfold hdB
    rw [hk, if_pos rfl]
    simp only [List.cons_append, List.append_assoc]
    rw [rdT_d d false (by omega) (by rw [hh]; simp; omega), hh]
    simp only [i1, i2, T.with]
    conv => rhs; rw [← T_eta t, hk, n3, h0]
    rfl
   ·have n3 : t.value = [] := List.length_eq_zero_iff.1 (by omega)
    have e := byte_cons (byt 2) (byts t.key ++ (byts t.digest ++ (l.wr ++ (r.wr ++ rest))))
    have hkd : Rd.kd ⟨byt 2 :: (byts t.key ++ (byts t.digest ++ (l.wr ++ (r.wr ++ rest)))), false⟩ = 2 := by unfold Rd.kd; rw [e]; rfl
    have r1 := read_byts t.key (by omega) 80 (by omega) (byts t.digest ++ (l.wr ++ (r.wr ++ rest)))
    have r2 := read_byts t.digest (by omega) 32 (by omega) (l.wr ++ (r.wr ++ rest))
    have hh : hdT ⟨byt 2 :: (byts t.key ++ (byts t.digest ++ (l.wr ++ (r.wr ++ rest)))), false⟩ = (.mk 2 t.key [] t.digest [], ⟨l.wr ++ (r.wr ++ rest), false⟩) := by
     rw [hdT_2 hkd, e]
     simp only [r1, r2]
    unfold hdB
    rw [hk, if_neg (by omega), if_pos rfl]
    simp only [List.cons_append, List.append_assoc]
    rw [rdT_d d false (by omega) (by rw [hh]; simp; omega), hh]
    simp only [i1, i2, T.with]
    conv => rhs; rw [← T_eta t, hk, n3, h0]
    rfl
end Go.Proofs.Ytdgfbfkjdflabaa
namespace Go.Proofs.Ytdgfbfkjdflabaa
open Go.Ev
theorem with_kids (t : T) (l : List T) : (t.with l).kids = l := rfl
theorem wrC_ok {t : T} (h : wrC t = 0) : t.formed = true ∧ t.long = false ∧ t.deep 64 = false := by
 have hc : t.chk = 0 := by
  by_cases hc : t.chk = 0
  ·exact hc
  ·rw [wrC_bad hc] at h
   exact h
 refine ⟨chk_formed hc, ?_, ?_⟩
 ·cases hg : t.long
  ·rfl
  ·rw [wrC_long hc hg] at h
   cases h
 ·unfold T.chk at hc
  split at hc
  ·cases hc
  ·rename_i hd
   simpa using hd
theorem back_0 {t : T} (h : wrC t = 0) (hs : t.size ≤ 1048576) (rest : List UInt8) : rdR (t.wr ++ rest) = (t, ⟨rest, false⟩, false) := by
 obtain ⟨h1, h2, h3⟩ := wrC_ok h
 exact rd_wr t h1 64 rest (Nat.le_refl _) hs h2 h3
theorem back_2 {t : T} (h : wrC t = 0) (hs : t.size ≤ 1048576) : rdC t.wr = 0 ∧ rdV t.wr = t := by
 have e := back_0 h hs []
 rw [List.append_nil] at e
 have hc : rdC t.wr = 0 := by
  unfold rdC
  rw [e]
  rfl
 refine ⟨hc, ?_⟩
 unfold rdV
 rw [if_pos hc, e]
end Go.Proofs.Ytdgfbfkjdflabaa
namespace Go.Proofs.Ytdgfbfkjdflabaa
open Go.Ev
def Q (s : List UInt8) : Rq := ⟨⟨s, false⟩, false⟩
def okN (n : Int) : Prop := 0 ≤ n ∧ n ≤ 1152921504606846976
theorem badN_no {n : Int} (h : badN n = false) : okN n := by
 unfold badN at h
 rw [decide_eq_false_iff_not] at h
 unfold okN
 omega
def numsB : List Int → List UInt8
 | [] => []
 | n :: r => num n ++ numsB r
def entB (e : Ent) : List UInt8 := num e.1 ++ (num e.2.1 ++ byts e.2.2)
def entsB : List Ent → List UInt8
 | [] => []
 | e :: r => entB e ++ entsB r
def okE (e : Ent) : Prop := okN e.1 ∧ okN e.2.1 ∧ e.2.2.length ≤ 4096
theorem cnts_g : ∀ (l : List Int) (w : Wr), (w.cnts l).bad = false → w.bad = false ∧ (∀ n ∈ l, okN n) ∧ (w.cnts l).b = w.b ++ numsB l
 | [], w, h => ⟨h, fun n hn => by simp at hn, by simp [Wr.cnts, numsB]⟩
 | n :: r, w, h => by
  cases hb : badN n
  ·rw [cnts_ok hb] at h ⊢
   obtain ⟨h1, h2, h3⟩ := cnts_g r _ h
   refine ⟨h1, fun k hk => ?_, by rw [h3]; simp [numsB, List.append_assoc]⟩
   rcases List.mem_cons.1 hk with rfl | hk
   ·exact badN_no hb
   ·exact h2 k hk
  ·rw [cnts_bad hb] at h; cases h
theorem byt_g {w : Wr} {x : List UInt8} {m : Int} (h : (w.byt x m).bad = false) : w.bad = false ∧ (x.length : Int) ≤ m ∧ (w.byt x m).b = w.b ++ byts x := by
 unfold Wr.byt at h ⊢
 split at h
 ·cases h
 ·rename_i hn
  rw [if_neg hn]
  simp only [not_or] at hn
  exact ⟨by simpa using hn.1, by omega, rfl⟩
theorem ents_g : ∀ (l : List Ent) (w : Wr), (w.ents l).bad = false → w.bad = false ∧ (∀ e ∈ l, okE e) ∧ (w.ents l).b = w.b ++ entsB l
 | [], w, h => ⟨h, fun n hn => by simp at hn, by simp [Wr.ents, entsB]⟩
 | e :: r, w, h => by
  have h0 : w.ents (e :: r) = ((w.cnts [e.1, e.2.1]).byt e.2.2 4096).ents r := rfl
  rw [h0] at h ⊢
  obtain ⟨h1, h2, h3⟩ := ents_g r _ h
  obtain ⟨h4, h5, h6⟩ := byt_g h1
  obtain ⟨h7, h8, h9⟩ := cnts_g _ _ h4
  refine ⟨h7, fun k hk => ?_, ?_⟩
  ·rcases List.mem_cons.1 hk with rfl | hk
   ·exact ⟨h8 _ (by simp), h8 _ (by simp), by omega⟩
   ·exact h2 k hk
  ·rw [h3, h6, h9]; simp [entsB, entB, numsB, List.append_assoc]
structure MG.good (m : MG) : Prop where
 n1 : okN m.kd
 n2 : okN m.fr
 n3 : okN m.to
 n4 : okN m.tm
 n5 : okN m.ix
 n6 : okN m.lt
 n7 : okN m.cm
 pt : okN m.part
 el : okN (m.ents.length : Int)
 es : ∀ e ∈ m.ents, okE e
 ml : okN (m.mem.length : Int)
 ms : ∀ n ∈ m.mem, okN n
 rt : m.root.length ≤ 32
 tr : wrC m.tree = 0
def MG.enc (m : MG) (T : List UInt8) : List UInt8 := num m.kd ++ (num m.fr ++ (num m.to ++ (num m.tm ++ (num m.ix ++ (num m.lt ++ (num m.cm ++ (okB m.ok ++ (num (m.ents.length : Int) ++ (entsB m.ents ++ (num (m.mem.length : Int) ++ (numsB m.mem ++ (num m.part ++ (byts m.root ++ T)))))))))))))
theorem endC_0 {w : Wr} (h : w.endC = 0) : w.bad = false ∧ w.b.length ≤ 1048576 ∧ w.endB = w.b := by
 have h2 : w.endB = w.b := if_pos h
 unfold Wr.endC at h
 cases hb : w.bad
 ·rw [if_neg (by simp [hb])] at h
  split at h
  ·cases h
  ·exact ⟨rfl, by omega, h2⟩
 ·rw [if_pos hb] at h; cases h
theorem msg_good {m : MG} (h : m.p.endC = 0) : m.good ∧ m.p.endB = m.enc (byts (wrB m.tree)) ∧ m.p.endB.length ≤ 1048576 := by
 obtain ⟨h1, h2, h3⟩ := endC_0 h
 rw [h3]
 have h0 : m.p = m.p7.byt (wrB m.tree) (wrB m.tree).length := rfl
 rw [h0] at h1
 obtain ⟨a1, _, a3⟩ := byt_g h1
 have h7 : m.p7 = m.p6.or (decide (¬ wrC m.tree = 0)) := rfl
 have b7 : m.p7.b = m.p6.b := rfl
 have c7 : m.p7.bad = (m.p6.bad || decide (¬ wrC m.tree = 0)) := rfl
 rw [c7, Bool.or_eq_false_iff, decide_eq_false_iff_not, Decidable.not_not] at a1
 obtain ⟨a4, a5⟩ := a1
 have h6 : m.p6 = m.p5.byt m.root 32 := rfl
 rw [h6] at a4
 obtain ⟨a6, a7, a8⟩ := byt_g a4
 have h5 : m.p5 = m.p4.cnts [m.part] := rfl
 rw [h5] at a6
 obtain ⟨a9, a10, a11⟩ := cnts_g _ _ a6
 have h4 : m.p4 = (m.p3.cnts [(m.mem.length : Int)]).cnts m.mem := rfl
 rw [h4] at a9
 obtain ⟨a12, a13, a14⟩ := cnts_g _ _ a9
 obtain ⟨a15, a16, a17⟩ := cnts_g _ _ a12
 have h3' : m.p3 = (m.p2.cnts [(m.ents.length : Int)]).ents m.ents := rfl
 rw [h3'] at a15
 obtain ⟨a18, a19, a20⟩ := ents_g _ _ a15
 obtain ⟨a21, a22, a23⟩ := cnts_g _ _ a18
 have b2 : m.p2.b = m.p1.b ++ okB m.ok := rfl
 have c2 : m.p2.bad = m.p1.bad := rfl
 rw [c2] at a21
 have h1' : m.p1 = Wr.cnts ⟨[], false⟩ m.l7 := rfl
 rw [h1'] at a21
 obtain ⟨_, a24, a25⟩ := cnts_g _ _ a21
 simp only [MG.l7, List.mem_cons, List.not_mem_nil, or_false, forall_eq_or_imp, forall_eq] at a24 a10 a16 a22
 obtain ⟨n1, n2, n3, n4, n5, n6, n7⟩ := a24
 refine ⟨⟨n1, n2, n3, n4, n5, n6, n7, a10, a22, a19, a16, a13, by omega, a5⟩, ?_, h2⟩
 rw [h0, a3, b7, h6, a8, h5, a11, h4, a14, a17, h3', a20, a23, b2, h1', a25]
 simp only [MG.enc, MG.l7, numsB, List.nil_append, List.append_nil, List.append_assoc]
theorem Q_cnt {n : Int} (h : okN n) (s : List UInt8) : (Q (num n ++ s)).cnt = (n, Q s) := by
 unfold okN at h
 have h1 := read_num n ⟨h.1, by omega⟩ s
 unfold Rq.cnt Q
 simp only
 rw [h1, if_neg (by simp only; omega)]
theorem Q_mem : ∀ (l acc : List Int) (s : List UInt8), (∀ n ∈ l, okN n) → qmem l.length (Q (numsB l ++ s)) acc = (acc ++ l, Q s)
 | [], acc, s, _ => by simp [qmem, numsB]
 | n :: r, acc, s, h => by
  rw [List.length_cons, qmem_go rfl, numsB, List.append_assoc, Q_cnt (h n (by simp))]
  simp only
  rw [Q_mem r (acc ++ [n]) s (fun k hk => h k (by simp [hk]))]
  simp
theorem Q_mems (l : List Int) (s : List UInt8) (hl : okN (l.length : Int)) (h : ∀ n ∈ l, okN n) : (Q (num (l.length : Int) ++ (numsB l ++ s))).mems = (l, Q s) := by
 unfold Rq.mems
 rw [Q_cnt hl]
 simp only [Int.toNat_natCast]
 rw [Q_mem l [] s h, List.nil_append]
theorem Q_ent1 (e : Ent) (h : okE e) (s : List UInt8) : (Q (entB e ++ s)).ent1 = (e, Q s) := by
 have h1 := read_byts e.2.2 (by have := h.2.2; omega) 4096 (by have := h.2.2; omega) s
 unfold Rq.ent1 entB
 rw [List.append_assoc, List.append_assoc, Q_cnt h.1]
 simp only
 rw [Q_cnt h.2.1]
 simp only [Q]
 rw [h1]
theorem Q_ent : ∀ (l acc : List Ent) (s : List UInt8), (∀ e ∈ l, okE e) → qent l.length (Q (entsB l ++ s)) acc = (acc ++ l, Q s)
 | [], acc, s, _ => by simp [qent, entsB]
 | e :: r, acc, s, h => by
  rw [List.length_cons, qent_go rfl, entsB, List.append_assoc, Q_ent1 e (h e (by simp))]
  simp only
  rw [Q_ent r (acc ++ [e]) s (fun k hk => h k (by simp [hk]))]
  simp
theorem Q_ents (l : List Ent) (s : List UInt8) (hl : okN (l.length : Int)) (h : ∀ e ∈ l, okE e) : (Q (num (l.length : Int) ++ (entsB l ++ s))).ents = (l, Q s) := by
 unfold Rq.ents
 rw [Q_cnt hl]
 simp only [Int.toNat_natCast]
 rw [Q_ent l [] s h, List.nil_append]
theorem Q_byt (ok : Bool) (s : List UInt8) : (Q (okB ok ++ s)).byt = (if ok = true then 1 else 0, Q s) := by
 unfold Rq.byt Q Rd.kd
 cases ok
 ·rw [show okB false ++ s = 0 :: s from rfl]
  simp only
  rw [byte_cons]
  rfl
 ·rw [show okB true ++ s = 1 :: s from rfl]
  simp only
  rw [byte_cons]
  rfl
theorem Q_bys (x : List UInt8) (s : List UInt8) (h : x.length ≤ 32) : (Q (byts x ++ s)).bys 32 = (x, Q s) := by
 have h1 := read_byts x (by omega) 32 (by omega) s
 unfold Rq.bys Q
 simp only
 rw [h1]
theorem Q_tre {t : T} (h : wrC t = 0) (hs : t.size ≤ 1048576) (hl : (wrB t).length ≤ 1048576) (s : List UInt8) : (Q (byts (wrB t) ++ s)).tre = (t, Q s) := by
 have h1 := read_byts (wrB t) (by omega) 1048576 (by omega) s
 obtain ⟨h2, h3⟩ := back_2 h hs
 unfold Rq.tre Q
 simp only
 rw [h1]
 simp only
 rw [wrB_good h, h2, h3]
 rfl
theorem msg_read {b : List UInt8} {m : MG} {T : List UInt8} (hg : m.good) (hb : b = m.enc T) (p1 p2 p3 p4 p5 p6 p7 p8 : Int × Rq) (p9 : List Ent × Rq) (p10 : List Int × Rq) (p11 : Int × Rq) (p12 : List UInt8 × Rq) (e1 : p1 = (q0 b).cnt) (e2 : p2 = p1.2.cnt) (e3 : p3 = p2.2.cnt) (e4 : p4 = p3.2.cnt) (e5 : p5 = p4.2.cnt) (e6 : p6 = p5.2.cnt) (e7 : p7 = p6.2.cnt) (e8 : p8 = p7.2.byt) (e9 : p9 = p8.2.ents) (e10 : p10 = p9.2.mems) (e11 : p11 = p10.2.cnt) (e12 : p12 = p11.2.bys 32) : p1 = (m.kd, Q (num m.fr ++ (num m.to ++ (num m.tm ++ (num m.ix ++ (num m.lt ++ (num m.cm ++ (okB m.ok ++ (num (m.ents.length : Int) ++ (entsB m.ents ++ (num (m.mem.length : Int) ++ (numsB m.mem ++ (num m.part ++ (byts m.root ++ T)))))))))))))) ∧ p2 = (m.fr, Q (num m.to ++ (num m.tm ++ (num m.ix ++ (num m.lt ++ (num m.cm ++ (okB m.ok ++ (num (m.ents.length : Int) ++ (entsB m.ents ++ (num (m.mem.length : Int) ++ (numsB m.mem ++ (num m.part ++ (byts m.root ++ T))))))))))))) ∧ p3 = (m.to, Q (num m.tm ++ (num m.ix ++ (num m.lt ++ (num m.cm ++ (okB m.ok ++ (num (m.ents.length : Int) ++ (entsB m.ents ++ (num (m.mem.length : Int) ++ (numsB m.mem ++ (num m.part ++ (byts m.root ++ T)))))))))))) ∧ p4 = (m.tm, Q (num m.ix ++ (num m.lt ++ (num m.cm ++ (okB m.ok ++ (num (m.ents.length : Int) ++ (entsB m.ents ++ (num (m.mem.length : Int) ++ (numsB m.mem ++ (num m.part ++ (byts m.root ++ T))))))))))) ∧ p5 = (m.ix, Q (num m.lt ++ (num m.cm ++ (okB m.ok ++ (num (m.ents.length : Int) ++ (entsB m.ents ++ (num (m.mem.length : Int) ++ (numsB m.mem ++ (num m.part ++ (byts m.root ++ T)))))))))) ∧ p6 = (m.lt, Q (num m.cm ++ (okB m.ok ++ (num (m.ents.length : Int) ++ (entsB m.ents ++ (num (m.mem.length : Int) ++ (numsB m.mem ++ (num m.part ++ (byts m.root ++ T))))))))) ∧ p7 = (m.cm, Q (okB m.ok ++ (num (m.ents.length : Int) ++ (entsB m.ents ++ (num (m.mem.length : Int) ++ (numsB m.mem ++ (num m.part ++ (byts m.root ++ T)))))))) ∧ p8 = ((if m.ok = true then 1 else 0), Q (num (m.ents.length : Int) ++ (entsB m.ents ++ (num (m.mem.length : Int) ++ (numsB m.mem ++ (num m.part ++ (byts m.root ++ T))))))) ∧ p9 = (m.ents, Q (num (m.mem.length : Int) ++ (numsB m.mem ++ (num m.part ++ (byts m.root ++ T))))) ∧ p10 = (m.mem, Q (num m.part ++ (byts m.root ++ T))) ∧ p11 = (m.part, Q (byts m.root ++ T)) ∧ p12 = (m.root, Q (T)) := by
 have c1 : p1 = (m.kd, Q (num m.fr ++ (num m.to ++ (num m.tm ++ (num m.ix ++ (num m.lt ++ (num m.cm ++ (okB m.ok ++ (num (m.ents.length : Int) ++ (entsB m.ents ++ (num (m.mem.length : Int) ++ (numsB m.mem ++ (num m.part ++ (byts m.root ++ T)))))))))))))) := by rw [e1, hb]; exact Q_cnt hg.n1 _
 have c2 : p2 = (m.fr, Q (num m.to ++ (num m.tm ++ (num m.ix ++ (num m.lt ++ (num m.cm ++ (okB m.ok ++ (num (m.ents.length : Int) ++ (entsB m.ents ++ (num (m.mem.length : Int) ++ (numsB m.mem ++ (num m.part ++ (byts m.root ++ T))))))))))))) := by rw [e2, c1]; exact Q_cnt hg.n2 _
 have c3 : p3 = (m.to, Q (num m.tm ++ (num m.ix ++ (num m.lt ++ (num m.cm ++ (okB m.ok ++ (num (m.ents.length : Int) ++ (entsB m.ents ++ (num (m.mem.length : Int) ++ (numsB m.mem ++ (num m.part ++ (byts m.root ++ T)))))))))))) := by rw [e3, c2]; exact Q_cnt hg.n3 _
 have c4 : p4 = (m.tm, Q (num m.ix ++ (num m.lt ++ (num m.cm ++ (okB m.ok ++ (num (m.ents.length : Int) ++ (entsB m.ents ++ (num (m.mem.length : Int) ++ (numsB m.mem ++ (num m.part ++ (byts m.root ++ T))))))))))) := by rw [e4, c3]; exact Q_cnt hg.n4 _
 have c5 : p5 = (m.ix, Q (num m.lt ++ (num m.cm ++ (okB m.ok ++ (num (m.ents.length : Int) ++ (entsB m.ents ++ (num (m.mem.length : Int) ++ (numsB m.mem ++ (num m.part ++ (byts m.root ++ T)))))))))) := by rw [e5, c4]; exact Q_cnt hg.n5 _
 have c6 : p6 = (m.lt, Q (num m.cm ++ (okB m.ok ++ (num (m.ents.length : Int) ++ (entsB m.ents ++ (num (m.mem.length : Int) ++ (numsB m.mem ++ (num m.part ++ (byts m.root ++ T))))))))) := by rw [e6, c5]; exact Q_cnt hg.n6 _
 have c7 : p7 = (m.cm, Q (okB m.ok ++ (num (m.ents.length : Int) ++ (entsB m.ents ++ (num (m.mem.length : Int) ++ (numsB m.mem ++ (num m.part ++ (byts m.root ++ T)))))))) := by rw [e7, c6]; exact Q_cnt hg.n7 _
 have c8 : p8 = ((if m.ok = true then 1 else 0), Q (num (m.ents.length : Int) ++ (entsB m.ents ++ (num (m.mem.length : Int) ++ (numsB m.mem ++ (num m.part ++ (byts m.root ++ T))))))) := by rw [e8, c7]; exact Q_byt _ _
 have c9 : p9 = (m.ents, Q (num (m.mem.length : Int) ++ (numsB m.mem ++ (num m.part ++ (byts m.root ++ T))))) := by rw [e9, c8]; exact Q_ents _ _ hg.el hg.es
 have c10 : p10 = (m.mem, Q (num m.part ++ (byts m.root ++ T))) := by rw [e10, c9]; exact Q_mems _ _ hg.ml hg.ms
 have c11 : p11 = (m.part, Q (byts m.root ++ T)) := by rw [e11, c10]; exact Q_cnt hg.pt _
 have c12 : p12 = (m.root, Q (T)) := by rw [e12, c11]; exact Q_bys _ _ hg.rt
 exact ⟨c1, c2, c3, c4, c5, c6, c7, c8, c9, c10, c11, c12⟩
theorem okd (ok : Bool) : decide ((if ok = true then (1 : Int) else 0) = 1) = ok := by cases ok <;> rfl
theorem msg_qMsg {b : List UInt8} {m : MG} {T : List UInt8} (hg : m.good) (hb : b = m.enc T) (ht : (Q T).tre.1 = m.tree) : qMsg b = m := by
 obtain ⟨c1, c2, c3, c4, c5, c6, c7, c8, c9, c10, c11, c12⟩ := msg_read hg hb (G1 b) (G2 b) (G3 b) (G4 b) (G5 b) (G6 b) (G7 b) (G8 b) (G9 b) (G10 b) (G11 b) (G12 b) rfl rfl rfl rfl rfl rfl rfl rfl rfl rfl rfl rfl
 have c13 : G13 b = (Q T).tre := by
  show (G12 b).2.tre = _
  rw [c12]
 unfold qMsg
 rw [c1, c2, c3, c4, c5, c6, c7, c8, c9, c10, c11, c12, c13]
 simp only
 rw [okd, ht]
theorem msg_fn {b : List UInt8} {m : MG} {T : List UInt8} (hg : m.good) (hb : b = m.enc T) : (G13 b).2.fn = (Q T).tre.2.fn := by
 obtain ⟨c1, c2, c3, c4, c5, c6, c7, c8, c9, c10, c11, c12⟩ := msg_read hg hb (G1 b) (G2 b) (G3 b) (G4 b) (G5 b) (G6 b) (G7 b) (G8 b) (G9 b) (G10 b) (G11 b) (G12 b) rfl rfl rfl rfl rfl rfl rfl rfl rfl rfl rfl rfl
 have c13 : G13 b = (Q T).tre := by
  show (G12 b).2.tre = _
  rw [c12]
 rw [c13]
theorem enc_app (m : MG) (T U : List UInt8) : m.enc T ++ U = m.enc (T ++ U) := by simp only [MG.enc, List.append_assoc]
theorem enc_len (m : MG) (T : List UInt8) : T.length ≤ (m.enc T).length := by
 have e : m.enc T = m.enc [] ++ T := by rw [enc_app, List.nil_append]
 rw [e, List.length_append]
 omega
theorem byts_le (x : List UInt8) : x.length ≤ (byts x).length := by unfold byts; rw [List.length_append]; omega
theorem Q_fn (s : List UInt8) : (Q s).fn = if s.length > 0 then 4 else 0 := rfl
theorem msg_back {m : MG} (h : m.p.endC = 0) (hs : m.tree.size ≤ 1048576) : msC m.p.endB = 0 ∧ msV m.p.endB = m := by
 obtain ⟨hg, hb, hl⟩ := msg_good h
 have l1 := enc_len m (byts (wrB m.tree))
 have l2 := byts_le (wrB m.tree)
 rw [← hb] at l1
 have ht := Q_tre hg.tr hs (by omega) []
 rw [List.append_nil] at ht
 have hc : msC m.p.endB = 0 := by
  unfold msC
  rw [if_neg (by omega), msg_fn hg hb, ht]
  rfl
 refine ⟨hc, ?_⟩
 unfold msV
 rw [if_pos hc]
 exact msg_qMsg hg hb (by rw [ht])
end Go.Proofs.Ytdgfbfkjdflabaa
namespace Go.Proofs.Ytdgfbfkjdflabaa
open Go.Ev
theorem ca_send (l : List AV) : cArgs tab n_net_Net_Send l = l := rfl
theorem ca_clone (l : List AV) : cArgs tab n_net_Net_Clone l = l := rfl
attribute [go_sem] ca_send ca_clone
theorem gnX : GN.X = netX9 := rfl
structure LnOk (l : Nat → List (List UInt8)) : Prop where
 len : ∀ k, (l k).length ≤ 64
 msg : ∀ k, ∀ b ∈ l k, ∃ m : MG, m.fit ∧ m.p.endC = 0 ∧ b = m.p.endB
theorem LnOk.nil : LnOk fun _ => [] := ⟨fun _ => by simp, fun _ b hb => by simp at hb⟩
theorem LnOk.upd {l : Nat → List (List UInt8)} (h : LnOk l) {k : Nat} {v : List (List UInt8)} (h1 : v.length ≤ 64) (h2 : ∀ b ∈ v, ∃ m : MG, m.fit ∧ m.p.endC = 0 ∧ b = m.p.endB) : LnOk (upd1 l k v) where
 len := fun j => by
  unfold upd1
  split
  ·exact h1
  ·exact h.len j
 msg := fun j b hb => by
  unfold upd1 at hb
  split at hb
  ·exact h2 b hb
  ·exact h.msg j b hb
theorem LnOk.send (g : Nat → Bool) : ∀ (ms : List MG) (l : Nat → List (List UInt8)) (n : Nat), (∀ m ∈ ms, m.fit) → LnOk l → LnOk (sendM g ms l n).2
 | [], l, n, _, h => h
 | m :: r, l, n, hf, h => by
  have hr := fun x hx => hf x (List.mem_cons_of_mem m hx)
  unfold sendM
  split
  ·rename_i hc
   refine LnOk.send g r _ n hr (h.upd (by rw [List.length_append, List.length_singleton]; omega) fun b hb => ?_)
   rcases List.mem_append.1 hb with hb | hb
   ·exact h.msg _ b hb
   ·rw [List.mem_singleton] at hb
    exact ⟨m, hf m (by simp), hc.1, hb⟩
  ·exact LnOk.send g r l (n + 1) hr h
theorem opL_upd (l : Nat → Option (List (List UInt8))) (k : Nat) (v : List (List UInt8)) : opL (upd1 l k (some v)) = upd1 (opL l) k v := by
 funext j
 simp only [opL, upd1]
 split <;> rfl
theorem x_send (l : Nat → Option (List (List UInt8))) (g : Nat → Bool) (ms : List MG) (hl : ms.length ≤ 1048576) (hf : ∀ m ∈ ms, m.fit ∧ inI m.fr = true ∧ inI m.to = true) : ∃ l', opL l' = (sendM g ms (opL l) 0).2 ∧ Ev tab GN n_net_Net_Send [.ptr 0 0, .sl true (eMs ms)] [oN, oL l, oF g] = some ([i64 (sendM g ms (opL l) 0).1], [oN, oL l', oF g]) := by
 obtain ⟨l', h1, h2⟩ := nSend_eMs g ms l 0 hf
 refine ⟨l', h2, ?_⟩
 rw [ev_x rfl, gnX]
 unfold netX9
 rw [if_pos rfl]
 simp only
 rw [if_pos ⟨by rw [eMs_len]; exact hl, eMs_sz⟩, h1]
theorem x_clone (l : Nat → Option (List (List UInt8))) (g : Nat → Bool) (hk : ∀ k, (opL l k).length ≤ 64) : Ev tab GN n_net_Net_Clone [.ptr 0 0] [oN, oL l, oF g] = some ([.ptr 3 0], [oN, oL l, oF g, .var [.mp 4, .mp 5], oL l, oF g]) := by
 rw [ev_x rfl, gnX]
 unfold netX9
 rw [if_neg (by decide), if_pos rfl]
 simp only
 rw [if_pos]
 rw [List.all_eq_true]
 intro k _
 have := hk k
 simp only [opL] at this
 exact decide_eq_true (by omega)
theorem read_back {m : MG} (hf : m.fit) (h : m.p.endC = 0) : Ev tab G0 n_entry_Read [.sl true (eB m.p.endB)] [] = some ([avMsg m, .s .nilIface], []) := by
 have b1 := msg_back h hf.ft
 have h1 := Read_good m.p.endB b1.1
 rw [b1.2] at h1
 exact h1
theorem rWrite_back {m : MG} (hf : m.fit) (h : m.p.endC = 0) : Ev tab G0 n_ref14_Write [avMsg m] [] = some ([.sl true (eB m.p.endB), i64 0], []) := by
 have h1 := rWrite_ev m hf
 rw [h] at h1
 exact h1
theorem errV_eV {n : Int} (h : ¬ n = 0) : errV n = eV n := if_neg h
end Go.Proofs.Ytdgfbfkjdflabaa
namespace Go.Proofs.Ytdgfbfkjdflabaa
open Go.Ev
abbrev oDd (w f t i : Int) (off : Bool) (ms : List MG) : AV := .agg [i64 w, i64 f, i64 t, i64 i, bo off, .sl true (eMs ms)]
theorem pick_cases {w : Int} : pickV w 6 = 0 ∨ pickV w 6 = 1 ∨ pickV w 6 = 2 ∨ pickV w 6 = 3 ∨ pickV w 6 = 4 ∨ pickV w 6 = 5 := by
 unfold pickV
 omega
theorem asked_any (l : Nat → List (List UInt8)) (g : Nat → Bool) (e1 e2 : Nat) (f t i : Int) : ∃ n : Int, Ev tab G0 n_law21_model_asked [.ptr 0 0, i64 f, i64 t, i64 i] [oM, .row e1 1 true false (mL l), .row e2 1 true false (mF g)] = some ([i64 n], [oM, .row e1 1 true false (mL l), .row e2 1 true false (mF g)]) := by
 cases h : isLine f t
 ·exact ⟨_, law21_asked_none l g true true e1 e2 f t i h⟩
 ·exact ⟨_, law21_asked_line l g true true e1 e2 f t i h⟩
theorem play_send (l : Nat → Option (List (List UInt8))) (g : Nat → Bool) (e1 e2 : Nat) (ol oo : Bool) (w f t i : Int) (off : Bool) (ms : List MG) (hw : inI w = true) (hp : pickV w 6 = 0 ∨ pickV w 6 = 1 ∨ pickV w 6 = 2) (hk : LnOk (opL l)) (hl : ms.length ≤ 80) (hf : ∀ m ∈ ms, m.fit ∧ inI m.fr = true ∧ inI m.to = true) :
  ∃ l', LnOk (opL l') ∧ Ev tab GN n_law21_play [.ptr 0 0, .ptr 3 0, oDd w f t i off ms] [oN, oL l, oF g, oM3, .row e1 1 ol false (mL (opL l)), .row e2 1 oo false (mF g)] = some ([bo true], [oN, oL l', oF g, oM3, .row e1 1 true false (mL (opL l')), .row e2 1 true false (mF g)]) := by
 obtain ⟨l', h1, h2⟩ := x_send l g ms (by omega) hf
 have h3 := evUp (law21_send_ev g e1 e2 true true (opL l) ms hl (fun m hm => (hf m hm).1) hk.len)
 have hk2 := LnOk.send g ms (opL l) 0 (fun m hm => (hf m hm).1) hk
 refine ⟨l', by rw [h1]; exact hk2, Ev_run t_law21_play rfl rfl ?_⟩
 have h4 := evUp (law21_at_ev f t)
 obtain ⟨n, h5⟩ := asked_any (opL l) g e1 e2 f t i
 have h5 := evUp h5
 have h6 := evUp (law21_pick_ev w 6 hw (by omega))
 rw [← h1] at h3
 generalize (sendM g ms (opL l) 0).1 = c at *
 have hq : ((c : Int) == (c : Int)) = true := by simp
 generalize mL (opL l) = L at *
 generalize mL (opL l') = L' at *
 generalize mF g = F at *
 rcases hp with e | e | e <;> rw [e] at h6 <;> simp (disch := omega) only [go_sem, seval, i_law21_play, h2, h3, h4, h5, h6, hq]
theorem play_take_bad (l : Nat → Option (List (List UInt8))) (g : Nat → Bool) (e1 e2 : Nat) (ol oo : Bool) (w f t i : Int) (off : Bool) (ms : List MG) (hw : inI w = true) (hp : pickV w 6 = 3) (n : Int) (hn : n = 1 ∨ n = 9)
  (ha : Ev tab G0 n_law21_model_asked [.ptr 0 0, i64 f, i64 t, i64 i] [oM, .row e1 1 true false (mL (opL l)), .row e2 1 true false (mF g)] = some ([i64 n], [oM, .row e1 1 true false (mL (opL l)), .row e2 1 true false (mF g)]))
  (ht : Ev tab G0 n_net_Net_Take [.ptr 0 0, i64 f, i64 t, i64 i] [oN, oL l, oF g] = some ([avMsg MG.no, eV n], [oN, oL l, oF g])) :
  Ev tab GN n_law21_play [.ptr 0 0, .ptr 3 0, oDd w f t i off ms] [oN, oL l, oF g, oM3, .row e1 1 ol false (mL (opL l)), .row e2 1 oo false (mF g)] = some ([bo true], [oN, oL l, oF g, oM3, .row e1 1 true false (mL (opL l)), .row e2 1 true false (mF g)]) := by
 refine Ev_run t_law21_play rfl rfl ?_
 have h2 := evUp ht
 have h4 := evUp (law21_at_ev f t)
 have h5 := evUp ha
 have h6 := evUp (law21_pick_ev w 6 hw (by omega))
 have h7 := evUp (law00_Code_ev n (by omega))
 rw [errV_eV (by omega)] at h7
 rw [hp] at h6
 change _ = some ([.agg [i64 0, i64 0, i64 0, i64 0, i64 0, i64 0, i64 0, bo false, .sl true [], .sl true [], i64 0, .sl true [], i64 0, .sl true [], .sl true [], .sl true [], .sl true []], eV n], [oN, oL l, oF g]) at h2
 generalize mL (opL l) = L at *
 generalize mF g = F at *
 rcases hn with rfl | rfl
 ·simp (disch := omega) only [go_sem, seval, i_law21_play, h2, h4, h5, h6, h7]
 ·simp (disch := omega) only [go_sem, seval, i_law21_play, h2, h4, h5, h6, h7]
theorem play_take (l : Nat → Option (List (List UInt8))) (g : Nat → Bool) (e1 e2 : Nat) (ol oo : Bool) (w f t : Int) (i : Nat) (off : Bool) (ms : List MG) (hw : inI w = true) (hp : pickV w 6 = 3) (hk : LnOk (opL l)) (hl : isLine f t = true) (hi : i < (opL l (lnIx f t)).length) :
  ∃ l', LnOk (opL l') ∧ Ev tab GN n_law21_play [.ptr 0 0, .ptr 3 0, oDd w f t i off ms] [oN, oL l, oF g, oM3, .row e1 1 ol false (mL (opL l)), .row e2 1 oo false (mF g)] = some ([bo true], [oN, oL l', oF g, oM3, .row e1 1 true false (mL (opL l')), .row e2 1 true false (mF g)]) := by
 obtain ⟨k1, k2⟩ := lnIx_lt hl
 have hmem : (opL l (lnIx f t)).getD i [] ∈ opL l (lnIx f t) := by simp [List.getD, hi]
 obtain ⟨m, m1, m2, m3⟩ := hk.msg _ _ hmem
 have hr := read_back m1 m2
 rw [← m3] at hr
 have hlen := hk.len (lnIx f t)
 have h2 := evUp (net_Net_Take_ev l g f t i (opL l (lnIx f t)) m hl rfl hi hlen hr)
 have h3 := evUp (rWrite_back m1 m2)
 have h4 := evUp (law21_at_ev f t)
 have h5 := evUp (law21_asked_line (opL l) g true true e1 e2 f t i hl)
 rw [if_neg (by omega)] at h5
 have h6 := evUp (law21_pick_ev w 6 hw (by omega))
 rw [hp] at h6
 rw [k2] at h4
 have h7 := mL_get (opL l) k1
 have h8 := mL_len (opL l)
 have h9 := eBs_get hi
 have hset := mL_set (opL l) (lnIx f t) ((opL l (lnIx f t)).eraseIdx i)
 have her : eBs ((opL l (lnIx f t)).eraseIdx i) = (eBs (opL l (lnIx f t))).take i ++ (eBs (opL l (lnIx f t))).drop (i + 1) := by
  rw [← eBs_erase, List.eraseIdx_eq_take_drop_succ]
 rw [her] at hset
 refine ⟨upd1 l (lnIx f t) (some ((opL l (lnIx f t)).eraseIdx i)), ?_, Ev_run t_law21_play rfl rfl ?_⟩
 ·rw [opL_upd]
  refine hk.upd ?_ fun b hb => hk.msg _ b (List.mem_of_mem_eraseIdx hb)
  rw [List.length_eraseIdx]
  split <;> omega
 rw [opL_upd]
 unfold avMsg mCells at h2 h3
 rw [m3] at h9
 have hq : (m.p.endB == m.p.endB) = true := beq_self_eq_true _
 have hz : szOk 1 (eBs (opL l (lnIx f t))) = true := eBs_sz _
 have hz1 : szOk 1 ((eBs (opL l (lnIx f t))).take i) = true := by rw [show (eBs (opL l (lnIx f t))).take i = eBs ((opL l (lnIx f t)).take i) by simp [eBs]]; exact eBs_sz _
 have hz2 : szOk 1 ((eBs (opL l (lnIx f t))).drop (i + 1)) = true := by rw [show (eBs (opL l (lnIx f t))).drop (i + 1) = eBs ((opL l (lnIx f t)).drop (i + 1)) by simp [eBs]]; exact eBs_sz _
 have hbl := eBs_len (opL l (lnIx f t))
 have hti : ((i : Int) + 1).toNat = i + 1 := by omega
 have htk : (eBs (opL l (lnIx f t))).take (opL l (lnIx f t)).length = eBs (opL l (lnIx f t)) := by rw [← hbl, List.take_length]
 generalize upd1 (opL l) (lnIx f t) ((opL l (lnIx f t)).eraseIdx i) = l2 at *
 generalize upd1 l (lnIx f t) (some ((opL l (lnIx f t)).eraseIdx i)) = l3 at *
 generalize m.p.endB = eb at *
 generalize lnIx f t = k at *
 generalize mL l2 = L2 at *
 generalize mL (opL l) = L at *
 generalize opL l k = lk at *
 generalize mF g = F at *
 simp (maxSteps := 1000000) (disch := first | omega | (simp only [lens, List.length_map]; omega)) only [go_sem, seval, i_law21_play, h2, h3, h4, h5, h6, h7, h8, h9, hset, hq, hz, hz1, hz2, hbl, hti, htk, hi, k1]
theorem play_double_bad (l : Nat → Option (List (List UInt8))) (g : Nat → Bool) (e1 e2 : Nat) (ol oo : Bool) (w f t i : Int) (off : Bool) (ms : List MG) (hw : inI w = true) (hp : pickV w 6 = 4) (n : Int) (hn : n = 1 ∨ n = 9)
  (ha : Ev tab G0 n_law21_model_asked [.ptr 0 0, i64 f, i64 t, i64 i] [oM, .row e1 1 true false (mL (opL l)), .row e2 1 true false (mF g)] = some ([i64 n], [oM, .row e1 1 true false (mL (opL l)), .row e2 1 true false (mF g)]))
  (ht : Ev tab G0 n_net_Net_Double [.ptr 0 0, i64 f, i64 t, i64 i] [oN, oL l, oF g] = some ([eV n], [oN, oL l, oF g])) :
  Ev tab GN n_law21_play [.ptr 0 0, .ptr 3 0, oDd w f t i off ms] [oN, oL l, oF g, oM3, .row e1 1 ol false (mL (opL l)), .row e2 1 oo false (mF g)] = some ([bo true], [oN, oL l, oF g, oM3, .row e1 1 true false (mL (opL l)), .row e2 1 true false (mF g)]) := by
 refine Ev_run t_law21_play rfl rfl ?_
 have h2 := evUp ht
 have h4 := evUp (law21_at_ev f t)
 have h5 := evUp ha
 have h6 := evUp (law21_pick_ev w 6 hw (by omega))
 have h7 := evUp (law00_Code_ev n (by omega))
 rw [errV_eV (by omega)] at h7
 rw [hp] at h6
 generalize mL (opL l) = L at *
 generalize mF g = F at *
 rcases hn with rfl | rfl
 ·simp (disch := omega) only [go_sem, seval, i_law21_play, h2, h4, h5, h6, h7]
 ·simp (disch := omega) only [go_sem, seval, i_law21_play, h2, h4, h5, h6, h7]
theorem play_double_full (l : Nat → Option (List (List UInt8))) (g : Nat → Bool) (e1 e2 : Nat) (ol oo : Bool) (w f t : Int) (i : Nat) (off : Bool) (ms : List MG) (hw : inI w = true) (hp : pickV w 6 = 4) (hl : isLine f t = true) (hi : i < (opL l (lnIx f t)).length) (h64 : 64 ≤ (opL l (lnIx f t)).length) :
  Ev tab GN n_law21_play [.ptr 0 0, .ptr 3 0, oDd w f t i off ms] [oN, oL l, oF g, oM3, .row e1 1 ol false (mL (opL l)), .row e2 1 oo false (mF g)] = some ([bo true], [oN, oL l, oF g, oM3, .row e1 1 true false (mL (opL l)), .row e2 1 true false (mF g)]) := by
 obtain ⟨k1, k2⟩ := lnIx_lt hl
 have h2 := evUp (net_Net_Double_full l g f t i (opL l (lnIx f t)) hl rfl hi h64)
 have h4 := evUp (law21_at_ev f t)
 have h5 := evUp (law21_asked_line (opL l) g true true e1 e2 f t i hl)
 rw [if_neg (by omega)] at h5
 have h6 := evUp (law21_pick_ev w 6 hw (by omega))
 have h3 := evUp (law00_Code_ev 11 (by omega))
 rw [errV_eV (by omega)] at h3
 rw [hp] at h6
 rw [k2] at h4
 have h7 := mL_get (opL l) k1
 have h8 := mL_len (opL l)
 have hbl := eBs_len (opL l (lnIx f t))
 have hc : ((opL l (lnIx f t)).length : Int) ≥ 64 := by omega
 refine Ev_run t_law21_play rfl rfl ?_
 generalize lnIx f t = k at *
 generalize mL (opL l) = L at *
 generalize opL l k = lk at *
 generalize mF g = F at *
 simp (disch := omega) only [go_sem, seval, i_law21_play, h2, h3, h4, h5, h6, h7, h8, hbl, hc, k1]
theorem play_double (l : Nat → Option (List (List UInt8))) (g : Nat → Bool) (e1 e2 : Nat) (ol oo : Bool) (w f t : Int) (i : Nat) (off : Bool) (ms : List MG) (hw : inI w = true) (hp : pickV w 6 = 4) (hk : LnOk (opL l)) (hl : isLine f t = true) (hi : i < (opL l (lnIx f t)).length) (h64 : (opL l (lnIx f t)).length < 64) :
  ∃ l', LnOk (opL l') ∧ Ev tab GN n_law21_play [.ptr 0 0, .ptr 3 0, oDd w f t i off ms] [oN, oL l, oF g, oM3, .row e1 1 ol false (mL (opL l)), .row e2 1 oo false (mF g)] = some ([bo true], [oN, oL l', oF g, oM3, .row e1 1 true false (mL (opL l')), .row e2 1 true false (mF g)]) := by
 obtain ⟨k1, k2⟩ := lnIx_lt hl
 have hmem : (opL l (lnIx f t)).getD i [] ∈ opL l (lnIx f t) := by simp [List.getD, hi]
 have h2 := evUp (net_Net_Double_ev l g f t i (opL l (lnIx f t)) hl rfl hi h64)
 have h3 := evUp (law00_Code_ev 0 (by omega))
 rw [errV, if_pos rfl] at h3
 have h4 := evUp (law21_at_ev f t)
 have h5 := evUp (law21_asked_line (opL l) g true true e1 e2 f t i hl)
 rw [if_neg (by omega)] at h5
 have h6 := evUp (law21_pick_ev w 6 hw (by omega))
 rw [hp] at h6
 rw [k2] at h4
 have h7 := mL_get (opL l) k1
 have h8 := mL_len (opL l)
 have h9 := eBs_get hi
 have hset := mL_set (opL l) (lnIx f t) (opL l (lnIx f t) ++ [(opL l (lnIx f t)).getD i []])
 have her : eBs (opL l (lnIx f t) ++ [(opL l (lnIx f t)).getD i []]) = eBs (opL l (lnIx f t)) ++ [[.sl (eB ((opL l (lnIx f t)).getD i []))]] := by simp [eBs]
 rw [her] at hset
 refine ⟨upd1 l (lnIx f t) (some (opL l (lnIx f t) ++ [(opL l (lnIx f t)).getD i []])), ?_, Ev_run t_law21_play rfl rfl ?_⟩
 ·rw [opL_upd]
  refine hk.upd (by rw [List.length_append, List.length_singleton]; omega) fun b hb => ?_
  rcases List.mem_append.1 hb with hb | hb
  ·exact hk.msg _ b hb
  ·rw [List.mem_singleton] at hb
   subst hb
   exact hk.msg _ _ hmem
 rw [opL_upd]
 have hz : szOk 1 (eBs (opL l (lnIx f t))) = true := eBs_sz _
 have hbl := eBs_len (opL l (lnIx f t))
 have hc : ¬ ((opL l (lnIx f t)).length : Int) ≥ 64 := by omega
 generalize upd1 (opL l) (lnIx f t) (opL l (lnIx f t) ++ [(opL l (lnIx f t)).getD i []]) = l2 at *
 generalize upd1 l (lnIx f t) (some (opL l (lnIx f t) ++ [(opL l (lnIx f t)).getD i []])) = l3 at *
 generalize lnIx f t = k at *
 generalize (opL l k).getD i [] = b at *
 generalize mL l2 = L2 at *
 generalize mL (opL l) = L at *
 generalize opL l k = lk at *
 generalize mF g = F at *
 simp (disch := omega) only [go_sem, seval, i_law21_play, h2, h3, h4, h5, h6, h7, h8, h9, hset, hz, hbl, hc, hi, k1]
theorem play_line_bad (l : Nat → Option (List (List UInt8))) (g : Nat → Bool) (e1 e2 : Nat) (ol oo : Bool) (w f t i : Int) (off : Bool) (ms : List MG) (hw : inI w = true) (hp : pickV w 6 = 5) (hl : isLine f t = false) :
  Ev tab GN n_law21_play [.ptr 0 0, .ptr 3 0, oDd w f t i off ms] [oN, oL l, oF g, oM3, .row e1 1 ol false (mL (opL l)), .row e2 1 oo false (mF g)] = some ([bo true], [oN, oL l, oF g, oM3, .row e1 1 true false (mL (opL l)), .row e2 1 true false (mF g)]) := by
 refine Ev_run t_law21_play rfl rfl ?_
 have h2 := evUp (net_Net_Line_noline l g f t off hl)
 have h4 := evUp (law21_at_ev f t)
 have e : atV f t = -1 := if_neg (by rw [hl]; decide)
 rw [e] at h4
 obtain ⟨n, h5⟩ := asked_any (opL l) g e1 e2 f t i
 have h5 := evUp h5
 have h6 := evUp (law21_pick_ev w 6 hw (by omega))
 rw [hp] at h6
 generalize mL (opL l) = L at *
 generalize mF g = F at *
 simp (disch := omega) only [go_sem, seval, i_law21_play, h2, h4, h5, h6]
theorem play_line (l : Nat → Option (List (List UInt8))) (g : Nat → Bool) (e1 e2 : Nat) (ol oo : Bool) (w f t i : Int) (off : Bool) (ms : List MG) (hw : inI w = true) (hp : pickV w 6 = 5) (hl : isLine f t = true) :
  Ev tab GN n_law21_play [.ptr 0 0, .ptr 3 0, oDd w f t i off ms] [oN, oL l, oF g, oM3, .row e1 1 ol false (mL (opL l)), .row e2 1 oo false (mF g)] = some ([bo true], [oN, oL l, oF (upd1 g (lnIx f t) off), oM3, .row e1 1 true false (mL (opL l)), .row e2 1 true false (mF (upd1 g (lnIx f t) off))]) := by
 refine Ev_run t_law21_play rfl rfl ?_
 obtain ⟨k1, k2⟩ := lnIx_lt hl
 have h2 := evUp (net_Net_Line_ev l g f t off hl)
 have h4 := evUp (law21_at_ev f t)
 rw [k2] at h4
 obtain ⟨n, h5⟩ := asked_any (opL l) g e1 e2 f t i
 have h5 := evUp h5
 have h6 := evUp (law21_pick_ev w 6 hw (by omega))
 rw [hp] at h6
 have h8 := mF_len g
 have h9 := mF_get g k1
 have hset := mF_set g (lnIx f t) off
 generalize upd1 g (lnIx f t) off = g2 at *
 generalize lnIx f t = k at *
 generalize mL (opL l) = L at *
 generalize mF g2 = F2 at *
 generalize mF g = F at *
 simp (disch := omega) only [go_sem, seval, i_law21_play, h2, h4, h5, h6, h8, h9, hset, k1]
end Go.Proofs.Ytdgfbfkjdflabaa
namespace Go.Proofs.Ytdgfbfkjdflabaa
open Go.Ev
theorem law21_play_ev (l : Nat → Option (List (List UInt8))) (g : Nat → Bool) (e1 e2 : Nat) (ol oo : Bool) (w f t i : Int) (off : Bool) (ms : List MG) (hw : inI w = true) (hft : inI f = true ∧ inI t = true) (hk : LnOk (opL l)) (hl : ms.length ≤ 80) (hf : ∀ m ∈ ms, m.fit ∧ inI m.fr = true ∧ inI m.to = true) :
  ∃ l' g', LnOk (opL l') ∧ Ev tab GN n_law21_play [.ptr 0 0, .ptr 3 0, oDd w f t i off ms] [oN, oL l, oF g, oM3, .row e1 1 ol false (mL (opL l)), .row e2 1 oo false (mF g)] = some ([bo true], [oN, oL l', oF g', oM3, .row e1 1 true false (mL (opL l')), .row e2 1 true false (mF g')]) := by
 rcases @pick_cases w with hp | hp | hp | hp | hp | hp
 ·obtain ⟨l', h1, h2⟩ := play_send l g e1 e2 ol oo w f t i off ms hw (.inl hp) hk hl hf
  exact ⟨l', g, h1, h2⟩
 ·obtain ⟨l', h1, h2⟩ := play_send l g e1 e2 ol oo w f t i off ms hw (.inr (.inl hp)) hk hl hf
  exact ⟨l', g, h1, h2⟩
 ·obtain ⟨l', h1, h2⟩ := play_send l g e1 e2 ol oo w f t i off ms hw (.inr (.inr hp)) hk hl hf
  exact ⟨l', g, h1, h2⟩
 ·cases hln : isLine f t
  ·exact ⟨l, g, hk, play_take_bad l g e1 e2 ol oo w f t i off ms hw hp 1 (.inl rfl) (law21_asked_none (opL l) g true true e1 e2 f t i hln) (net_Net_Take_err l g f t i 1 (net_Net_at_noline l g f t i hft.1 hft.2 hln))⟩
  ·by_cases hi : i < 0 ∨ ((opL l (lnIx f t)).length : Int) ≤ i
   ·refine ⟨l, g, hk, play_take_bad l g e1 e2 ol oo w f t i off ms hw hp 9 (.inr rfl) ?_ (net_Net_Take_err l g f t i 9 (net_Net_at_none l g f t i _ hln rfl hi))⟩
    have := law21_asked_line (opL l) g true true e1 e2 f t i hln
    rw [if_pos hi] at this
    exact this
   ·obtain ⟨j, rfl⟩ : ∃ j : Nat, i = j := ⟨i.toNat, by omega⟩
    obtain ⟨l', h1, h2⟩ := play_take l g e1 e2 ol oo w f t j off ms hw hp hk hln (by omega)
    exact ⟨l', g, h1, h2⟩
 ·cases hln : isLine f t
  ·exact ⟨l, g, hk, play_double_bad l g e1 e2 ol oo w f t i off ms hw hp 1 (.inl rfl) (law21_asked_none (opL l) g true true e1 e2 f t i hln) (net_Net_Double_err l g f t i 1 (net_Net_at_noline l g f t i hft.1 hft.2 hln))⟩
  ·by_cases hi : i < 0 ∨ ((opL l (lnIx f t)).length : Int) ≤ i
   ·refine ⟨l, g, hk, play_double_bad l g e1 e2 ol oo w f t i off ms hw hp 9 (.inr rfl) ?_ (net_Net_Double_err l g f t i 9 (net_Net_at_none l g f t i _ hln rfl hi))⟩
    have := law21_asked_line (opL l) g true true e1 e2 f t i hln
    rw [if_pos hi] at this
    exact this
   ·obtain ⟨j, rfl⟩ : ∃ j : Nat, i = j := ⟨i.toNat, by omega⟩
    by_cases h64 : (opL l (lnIx f t)).length < 64
    ·obtain ⟨l', h1, h2⟩ := play_double l g e1 e2 ol oo w f t j off ms hw hp hk hln (by omega) h64
     exact ⟨l', g, h1, h2⟩
    ·exact ⟨l, g, hk, play_double_full l g e1 e2 ol oo w f t j off ms hw hp hln (by omega) (by omega)⟩
 ·cases hln : isLine f t
  ·exact ⟨l, g, hk, play_line_bad l g e1 e2 ol oo w f t i off ms hw hp hln⟩
  ·exact ⟨l, _, hk, play_line l g e1 e2 ol oo w f t i off ms hw hp hln⟩
def plM (f t n : Int) : MG := ⟨0, f, t, n, 0, 0, 0, false, [], [], 0, [], ⟨0, [], [], [], []⟩⟩
theorem cnts_fwd : ∀ (l : List Int) (w : Wr), (∀ n ∈ l, okN n) → w.cnts l = ⟨w.b ++ numsB l, w.bad⟩
 | [], w, _ => by simp [Wr.cnts, numsB]
 | n :: r, w, h => by
  rw [cnts_ok (badN_ok (h n (by simp))), cnts_fwd r _ (fun x hx => h x (List.mem_cons_of_mem n hx))]
  simp [numsB, List.append_assoc]
theorem wrC_no : wrC ⟨0, [], [], [], []⟩ = 0 := by kernel_rfl
theorem wrB_no : (wrB ⟨0, [], [], [], []⟩).length ≤ 1000 := of_decide_eq_true (by kernel_rfl)
theorem plM_good (f t n : Int) (hf : 0 ≤ f ∧ f ≤ 1000) (ht : 0 ≤ t ∧ t ≤ 1000) (hn : 0 ≤ n ∧ n ≤ 1000) : (plM f t n).p.endC = 0 := by
 have l1 := cnts_len ⟨[], false⟩ (plM f t n).l7
 have l3' := cnt1_len (plM f t n).p2 0
 have l4' := cnt1_len (plM f t n).p3 0
 have l5 := cnt1_len (plM f t n).p4 0
 have l6 := byt_len (plM f t n).p5 [] 32
 have l8 := byt_len (plM f t n).p7 (wrB ⟨0, [], [], [], []⟩) (wrB ⟨0, [], [], [], []⟩).length
 have l9 := wrB_no
 have q0 : okN 0 := by unfold okN; omega
 have q1 : ∀ x ∈ (plM f t n).l7, okN x := fun x hx => by
  simp only [MG.l7, plM, List.mem_cons, List.not_mem_nil, or_false] at hx
  unfold okN
  omega
 have c1 : (plM f t n).p1 = ⟨[] ++ numsB (plM f t n).l7, false⟩ := cnts_fwd _ _ q1
 have q2 : ∀ x ∈ ([0] : List Int), okN x := fun x hx => by
  rw [List.mem_singleton] at hx
  subst hx
  exact q0
 have b2 : (plM f t n).p2.bad = false := by
  show (plM f t n).p1.bad = false
  rw [c1]
 have b3 : (plM f t n).p3.bad = false := by
  show ((plM f t n).p2.cnts [0]).bad = false
  rw [cnts_fwd _ _ q2]
  exact b2
 have b4 : (plM f t n).p4.bad = false := by
  show ((plM f t n).p3.cnts [0]).bad = false
  rw [cnts_fwd _ _ q2]
  exact b3
 have b5 : (plM f t n).p5.bad = false := by
  show ((plM f t n).p4.cnts [0]).bad = false
  rw [cnts_fwd _ _ q2]
  exact b4
 have b6 : (plM f t n).p6.bad = false := by
  show ((plM f t n).p5.byt [] 32).bad = false
  unfold Wr.byt
  rw [b5, if_neg (by simp)]
 have b7 : (plM f t n).p7.bad = false := by
  show ((plM f t n).p6.bad || decide (¬ wrC ⟨0, [], [], [], []⟩ = 0)) = false
  rw [b6, wrC_no]
  rfl
 have b8 : (plM f t n).p.bad = false := by
  show ((plM f t n).p7.byt (wrB ⟨0, [], [], [], []⟩) (wrB ⟨0, [], [], [], []⟩).length).bad = false
  unfold Wr.byt
  rw [b7, if_neg (by simp)]
 simp only [MG.l7, List.length_cons, List.length_nil] at l1
 change (plM f t n).p1.b.length ≤ _ at l1
 change (plM f t n).p3.b.length ≤ _ at l3'
 change (plM f t n).p4.b.length ≤ _ at l4'
 change (plM f t n).p5.b.length ≤ _ at l5
 change (plM f t n).p6.b.length ≤ _ at l6
 change (plM f t n).p.b.length ≤ (plM f t n).p6.b.length + _ + _ at l8
 have l2 : (plM f t n).p2.b.length = (plM f t n).p1.b.length + 1 := by
  show ((plM f t n).p1.b ++ [0]).length = _
  simp
 simp only [List.length_nil] at l6
 unfold Wr.endC
 rw [b8, if_neg (by decide), if_neg (by omega)]
theorem plM_fit (f t n : Int) : (plM f t n).fit := ⟨of_decide_eq_true (by rfl), of_decide_eq_true (by rfl), of_decide_eq_true (by rfl), by
 show (T.mk 0 [] [] [] []).size ≤ _
 simp [T.size, sizeL]⟩
theorem eMs_pl (f t n : Int) : mC (plM f t n) = [.sc (.int .i64 0), .sc (.int .i64 f), .sc (.int .i64 t), .sc (.int .i64 n), .sc (.int .i64 0), .sc (.int .i64 0), .sc (.int .i64 0), .sc (.bool false), .sl [], .sl [], .sc (.int .i64 0), .sl [], .sc (.int .i64 0), .sl [], .sl [], .sl [], .sl []] := by
 have e : eT (plM f t n).tree.kids = [] := eT_nil
 unfold mC
 rw [e]
 rfl
theorem up_ev : Ev tab GN n_law21_up [] [] = some ([bo true], []) := by
 have g1 := plM_good 1 2 5 (by omega) (by omega) (by omega)
 obtain ⟨l', h1, h2⟩ := x_send (fun _ => none) (fun _ => false) [plM 1 2 5, plM 1 1 0] (by simp) (fun m hm => by
  simp only [List.mem_cons, List.not_mem_nil, or_false] at hm
  rcases hm with rfl | rfl
  ·exact ⟨plM_fit _ _ _, rfl, rfl⟩
  ·exact ⟨plM_fit _ _ _, rfl, rfl⟩)
 have e : sendM (fun _ => false) [plM 1 2 5, plM 1 1 0] (opL fun _ => none) 0 = (1, upd1 (fun _ => []) 10 [(plM 1 2 5).p.endB]) := by
  unfold sendM
  rw [if_pos ⟨g1, rfl, rfl, by decide⟩]
  unfold sendM
  rw [if_neg (fun h => by cases h.2.1)]
  rfl
 rw [e] at h1 h2
 have h3 := evUp net_New_ev
 have hm : (l' (lnIx 1 2)).getD [] = [(plM 1 2 5).p.endB] := by
  have := congrFun h1 10
  exact this
 have h4 := evUp (net_Net_Take_ev l' (fun _ => false) 1 2 0 [(plM 1 2 5).p.endB] (plM 1 2 5) rfl hm (by simp) (by simp) (read_back (plM_fit _ _ _) g1))
 have h5 := evUp (net_Net_Take_err (upd1 l' (lnIx 1 2) (some [])) (fun _ => false) 1 2 0 9 (net_Net_at_none _ _ 1 2 0 [] rfl rfl (by simp)))
 have e0 : ((0 : Nat) : Int) = 0 := rfl
 rw [e0] at h4
 change _ = some ([_, _], [oN, oL (upd1 l' (lnIx 1 2) (some [])), oF fun _ => false]) at h4
 rw [show eMs [plM 1 2 5, plM 1 1 0] = [mC (plM 1 2 5), mC (plM 1 1 0)] from rfl, eMs_pl, eMs_pl] at h2
 unfold avMsg mCells plM at h4
 unfold avMsg mCells MG.no at h5
 generalize (upd1 l' (lnIx 1 2) (some [])) = l2 at *
 refine Ev_run t_law21_up rfl rfl ?_
 simp (disch := omega) only [go_sem, seval, i_law21_up, h2, h3, h4, h5]
end Go.Proofs.Ytdgfbfkjdflabaa
namespace Go.Proofs.Ytdgfbfkjdflabaa
open Go.Ev
def fmsgs (f t : Int) (n : Nat) : List (List UInt8) := (List.range n).map fun j : Nat => (plM f t (j : Int)).p.endB
theorem fmsgs_len (f t : Int) (n : Nat) : (fmsgs f t n).length = n := by simp [fmsgs]
theorem fmsgs_succ (f t : Int) (n : Nat) : fmsgs f t n ++ [(plM f t n).p.endB] = fmsgs f t (n + 1) := by simp [fmsgs, List.range_succ]
theorem fmsgs_0 (f t : Int) (n : Nat) (h : 0 < n) : (fmsgs f t n).getD 0 [] = (plM f t 0).p.endB := by
 obtain ⟨m, rfl⟩ : ∃ m, n = m + 1 := ⟨n - 1, by omega⟩
 simp [fmsgs, List.getD]
abbrev fL (f t : Int) (n : Nat) : Nat → List (List UInt8) := upd1 (fun _ => []) (lnIx f t) (fmsgs f t n)
theorem upd1_upd1 {α : Type} (l : Nat → α) (k : Nat) (v w : α) : upd1 (upd1 l k v) k w = upd1 l k w := by
 funext j
 simp only [upd1]
 split <;> rfl
theorem upd1_at {α : Type} (l : Nat → α) (k : Nat) (v : α) : upd1 l k v k = v := if_pos rfl
theorem ms_pl (f t n : Int) : eMs [plM f t n] = [[.sc (.int .i64 0), .sc (.int .i64 f), .sc (.int .i64 t), .sc (.int .i64 n), .sc (.int .i64 0), .sc (.int .i64 0), .sc (.int .i64 0), .sc (.bool false), .sl [], .sl [], .sc (.int .i64 0), .sl [], .sc (.int .i64 0), .sl [], .sl [], .sl [], .sl []]] := by
 rw [show eMs [plM f t n] = [mC (plM f t n)] from rfl, eMs_pl]
theorem x_send1 (l : Nat → Option (List (List UInt8))) (g : Nat → Bool) (f t n : Int) (hf : 1 ≤ f ∧ f ≤ 7) (ht : 1 ≤ t ∧ t ≤ 7) : ∃ l', opL l' = (sendM g [plM f t n] (opL l) 0).2 ∧ Ev tab GN n_net_Net_Send [.ptr 0 0, .sl true [[.sc (.int .i64 0), .sc (.int .i64 f), .sc (.int .i64 t), .sc (.int .i64 n), .sc (.int .i64 0), .sc (.int .i64 0), .sc (.int .i64 0), .sc (.bool false), .sl [], .sl [], .sc (.int .i64 0), .sl [], .sc (.int .i64 0), .sl [], .sl [], .sl [], .sl []]]] [oN, oL l, oF g] = some ([i64 (sendM g [plM f t n] (opL l) 0).1], [oN, oL l', oF g]) := by
 have h := x_send l g [plM f t n] (by simp) fun m hm => by
  rw [List.mem_singleton] at hm
  subst hm
  have i1 : inI f = true := by
   simp only [inI, decide_eq_true_eq]
   omega
  have i2 : inI t = true := by
   simp only [inI, decide_eq_true_eq]
   omega
  exact ⟨plM_fit _ _ _, i1, i2⟩
 rw [ms_pl] at h
 exact h
abbrev gF : Nat → Bool := fun _ => false
abbrev hFu (l : Nat → Option (List (List UInt8))) : Heap := [some oN, some (oL l), some (oF gF), none]
theorem full_loop1 (f t : Int) (many : Nat) (hm : many ≤ 100) (hf : 1 ≤ f ∧ f ≤ 7) (ht : 1 ≤ t ∧ t ≤ 7) (hft : f ≠ t) : ∀ (n i : Nat) (l : Nat → Option (List (List UInt8))), n + i = many → opL l = fL f t (min i 64) →
  ∃ l', opL l' = fL f t (min many 64) ∧ L_law21_NetFull_0 (s_law21_NetFull_K0 (i64 f) (i64 t) (i64 many) (bo true) (.ptr 0 0) (i64 i) (hFu l)) = some (.exit 0, s_law21_NetFull_J0 (i64 f) (i64 t) (i64 many) (bo true) (.ptr 0 0) (hFu l'))
 | 0, i, l, h, hl => by
  have hi : i = many := by omega
  subst hi
  refine ⟨l, hl, ?_⟩
  rw [L_law21_NetFull_0_eq]
  unfold hFu
  simp (disch := omega) only [go_sem, seval, i_law21_NetFull_b0]
 | n + 1, i, l, h, hl => by
  have hln : isLine f t = true := by
   simp only [isLine, decide_eq_true_eq]
   omega
  have hg := plM_good f t i (by omega) (by omega) (by omega)
  obtain ⟨l2, q1, q2⟩ := x_send1 l gF f t i hf ht
  have hat : opL l (lnIx f t) = fmsgs f t (min i 64) := by rw [hl]; exact upd1_at _ _ _
  by_cases h64 : i < 64
  ·have e : sendM gF [plM f t i] (opL l) 0 = (0, fL f t (min (i + 1) 64)) := by
    unfold sendM
    rw [if_pos ⟨hg, hln, rfl, by
     show (opL l (lnIx f t)).length < 64
     rw [hat, fmsgs_len]; omega⟩]
    unfold sendM
    show (0, upd1 (opL l) (lnIx f t) (opL l (lnIx f t) ++ [(plM f t i).p.endB])) = _
    rw [hat, show min i 64 = i by omega, fmsgs_succ, show min (i + 1) 64 = i + 1 by omega, hl, upd1_upd1]
   rw [e] at q1 q2
   obtain ⟨l', a1, ih⟩ := full_loop1 f t many hm hf ht hft n (i + 1) l2 (by omega) q1
   refine ⟨l', a1, ?_⟩
   rw [L_law21_NetFull_0_eq]
   unfold hFu at *
   try simp (disch := omega) only [go_sem, seval] at ih
   simp (disch := omega) only [go_sem, seval, i_law21_NetFull_b0, q2, ih]
  ·have e : sendM gF [plM f t i] (opL l) 0 = (1, fL f t (min (i + 1) 64)) := by
    unfold sendM
    rw [if_neg (fun h => by
     have h4 := h.2.2.2
     change (opL l (lnIx f t)).length < 64 at h4
     rw [hat, fmsgs_len] at h4
     omega)]
    unfold sendM
    rw [hl, show min i 64 = 64 by omega, show min (i + 1) 64 = 64 by omega]
   rw [e] at q1 q2
   obtain ⟨l', a1, ih⟩ := full_loop1 f t many hm hf ht hft n (i + 1) l2 (by omega) q1
   refine ⟨l', a1, ?_⟩
   have hc : ¬ (i : Int) < 64 := by omega
   have hc2 : (f != t) = true := by simpa using hft
   have hc3 : (f == t) = false := by simpa using hft
   rw [L_law21_NetFull_0_eq]
   unfold hFu at *
   try simp (disch := omega) only [go_sem, seval] at ih
   simp (disch := omega) only [go_sem, seval, i_law21_NetFull_b0, q2, hc, hc2, hc3, ih]
theorem full_loop0 (f : Int) (many : Nat) (hm : many ≤ 100) (hf : 1 ≤ f ∧ f ≤ 7) : ∀ (n i : Nat) (l : Nat → Option (List (List UInt8))), n + i = many → opL l = (fun _ => []) →
  ∃ l', opL l' = (fun _ => []) ∧ L_law21_NetFull_0 (s_law21_NetFull_K0 (i64 f) (i64 f) (i64 many) (bo true) (.ptr 0 0) (i64 i) (hFu l)) = some (.exit 0, s_law21_NetFull_J0 (i64 f) (i64 f) (i64 many) (bo true) (.ptr 0 0) (hFu l'))
 | 0, i, l, h, hl => by
  have hi : i = many := by omega
  subst hi
  refine ⟨l, hl, ?_⟩
  rw [L_law21_NetFull_0_eq]
  unfold hFu
  simp (disch := omega) only [go_sem, seval, i_law21_NetFull_b0]
 | n + 1, i, l, h, hl => by
  obtain ⟨l2, q1, q2⟩ := x_send1 l gF f f i hf hf
  have e : sendM gF [plM f f i] (opL l) 0 = (1, fun _ => []) := by
   unfold sendM
   rw [if_neg (fun h => by
    have h2 := h.2.1
    simp only [isLine, decide_eq_true_eq] at h2
    exact h2.2.2.2.2 rfl)]
   unfold sendM
   rw [hl]
  rw [e] at q1 q2
  obtain ⟨l', a1, ih⟩ := full_loop0 f many hm hf n (i + 1) l2 (by omega) q1
  refine ⟨l', a1, ?_⟩
  have hc2 : (f != f) = false := by simp
  have hc3 : (f == f) = true := by simp
  rw [L_law21_NetFull_0_eq]
  unfold hFu at *
  try simp (disch := omega) only [go_sem, seval] at ih
  simp (disch := omega) only [go_sem, seval, i_law21_NetFull_b0, q2, hc2, hc3, ih]
theorem law_NetFull (a b c : Int) (ha : inI a = true) (hb : inI b = true) (hc : inI c = true) : ∃ outs, Ev tab GN n_law21_NetFull [i64 a, i64 b, i64 c] [] = some ([bo true], outs) := by
 have h1 := up_ev
 have h2 := evUp (law21_pick_ev a 7 ha (by omega))
 have h3 := evUp (law21_pick_ev b 7 hb (by omega))
 have h4 := evUp (law21_pick_ev c 100 hc (by omega))
 have h5 := evUp net_New_ev
 obtain ⟨a1, a2⟩ : 0 ≤ pickV a 7 ∧ pickV a 7 < 7 := ⟨Int.emod_nonneg _ (by omega), Int.emod_lt_of_pos _ (by omega)⟩
 obtain ⟨b1, b2⟩ : 0 ≤ pickV b 7 ∧ pickV b 7 < 7 := ⟨Int.emod_nonneg _ (by omega), Int.emod_lt_of_pos _ (by omega)⟩
 obtain ⟨c1, c2⟩ : 0 ≤ pickV c 100 ∧ pickV c 100 < 100 := ⟨Int.emod_nonneg _ (by omega), Int.emod_lt_of_pos _ (by omega)⟩
 generalize pickV a 7 = x at *
 generalize pickV b 7 = y at *
 obtain ⟨many, hmany⟩ : ∃ m : Nat, pickV c 100 = m := ⟨(pickV c 100).toNat, by omega⟩
 rw [hmany] at h4 c1 c2
 have e0 : ((0 : Nat) : Int) = 0 := rfl
 refine ⟨[], Ev_run t_law21_NetFull rfl rfl ?_⟩
 by_cases hxy : x = y
 ·subst hxy
  obtain ⟨l', k1, k2⟩ := full_loop0 (1 + x) many (by omega) (by omega) many 0 (fun _ => none) (by omega) rfl
  have hln : isLine (1 + x) (1 + x) = false := by
   simp only [isLine, decide_eq_false_iff_not]
   omega
  have hin : inI (1 + x) = true := by simp only [inI, decide_eq_true_eq]; omega
  have h6 := evUp (net_Net_Double_err l' gF (1 + x) (1 + x) 0 1 (net_Net_at_noline l' gF (1 + x) (1 + x) 0 hin hin hln))
  have h7 := evUp (net_Net_Len_ev l' gF (1 + x) (1 + x) hin hin)
  rw [hln, if_neg (by decide)] at h7
  rw [e0] at k2
  unfold hFu at k2
  have q1 : ((1 + x) == (1 + x)) = true := by simp
  have q2 : ((1 + x) != (1 + x)) = false := by simp
  by_cases h64 : (many : Int) > 64
  ·simp (disch := omega) only [go_sem, seval, i_law21_NetFull, h1, h2, h3, h4, h5, k2, h6, h7, q1, q2, h64]
  ·simp (disch := omega) only [go_sem, seval, i_law21_NetFull, h1, h2, h3, h4, h5, k2, h6, h7, q1, q2, h64]
 ·obtain ⟨l', k1, k2⟩ := full_loop1 (1 + x) (1 + y) many (by omega) (by omega) (by omega) (by omega) many 0 (fun _ => none) (by omega) (by
   funext k
   simp only [fL, upd1, fmsgs]
   split <;> rfl)
  rw [e0] at k2
  unfold hFu at k2
  have hln : isLine (1 + x) (1 + y) = true := by
   simp only [isLine, decide_eq_true_eq]
   omega
  have hln2 : isLine (1 + y) (1 + x) = true := by
   simp only [isLine, decide_eq_true_eq]
   omega
  have hin : inI (1 + x) = true := by simp only [inI, decide_eq_true_eq]; omega
  have hin2 : inI (1 + y) = true := by simp only [inI, decide_eq_true_eq]; omega
  have hne : ¬ lnIx (1 + y) (1 + x) = lnIx (1 + x) (1 + y) := by
   simp only [lnIx]
   omega
  have hms : (l' (lnIx (1 + x) (1 + y))).getD [] = fmsgs (1 + x) (1 + y) (min many 64) := (congrFun k1 _).trans (upd1_at _ _ _)
  have hms2 : (l' (lnIx (1 + y) (1 + x))).getD [] = [] := (congrFun k1 _).trans (if_neg hne)
  have q1 : ((1 + x) == (1 + y)) = false := by
   simp only [beq_eq_false_iff_ne]
   omega
  have q2 : ((1 + x) != (1 + y)) = true := by
   simp only [bne_iff_ne]
   omega
  have h7 := evUp (net_Net_Len_ev l' gF (1 + x) (1 + y) hin hin2)
  have h8 := evUp (net_Net_Len_ev l' gF (1 + y) (1 + x) hin2 hin)
  rw [hln, if_pos rfl, hms, fmsgs_len] at h7
  rw [hln2, if_pos rfl, hms2] at h8
  have q3 : ((1 + y) != (1 + x)) = true := by
   simp only [bne_iff_ne]
   omega
  by_cases hz : many = 0
  ·subst hz
   have h6 := evUp (net_Net_Double_err l' gF (1 + x) (1 + y) 0 9 (net_Net_at_none l' gF (1 + x) (1 + y) 0 _ hln hms (.inr (by rw [fmsgs_len]; simp))))
   rw [show min 0 64 = 0 by omega] at h7
   rw [e0] at h7 h4 k2
   simp (disch := omega) only [go_sem, seval, i_law21_NetFull, h1, h2, h3, h4, h5, k2, h6, h7, h8, q1, q2, q3]
  by_cases h64 : 64 ≤ many
  ·have h6 := evUp (net_Net_Double_full l' gF (1 + x) (1 + y) 0 _ hln hms (by rw [fmsgs_len]; omega) (by rw [fmsgs_len]; omega))
   rw [e0] at h6
   rw [show min many 64 = 64 by omega] at h7
   by_cases hgt : (many : Int) > 64
   ·simp (disch := omega) only [go_sem, seval, i_law21_NetFull, h1, h2, h3, h4, h5, k2, h6, h7, h8, q1, q2, q3, hgt]
   ·have : many = 64 := by omega
    subst this
    rw [show ((64 : Nat) : Int) = 64 from rfl] at h4 k2 h7
    simp (disch := omega) only [go_sem, seval, i_law21_NetFull, h1, h2, h3, h4, h5, k2, h6, h7, h8, q1, q2, q3, hgt]
  ·rw [show min many 64 = many by omega] at h7 hms
   have h6 := evUp (net_Net_Double_ev l' gF (1 + x) (1 + y) 0 _ hln hms (by rw [fmsgs_len]; omega) (by rw [fmsgs_len]; omega))
   rw [fmsgs_0 _ _ _ (by omega), e0] at h6
   have hg := plM_good (1 + x) (1 + y) 0 (by omega) (by omega) (by omega)
   generalize hl3 : upd1 l' (lnIx (1 + x) (1 + y)) (some (fmsgs (1 + x) (1 + y) many ++ [(plM (1 + x) (1 + y) 0).p.endB])) = l3 at *
   have hms3 : (l3 (lnIx (1 + x) (1 + y))).getD [] = fmsgs (1 + x) (1 + y) many ++ [(plM (1 + x) (1 + y) 0).p.endB] := by rw [← hl3, upd1_at]; rfl
   have hms4 : (l3 (lnIx (1 + y) (1 + x))).getD [] = [] := by
    rw [← hl3]
    show (upd1 l' _ _ _).getD [] = []
    rw [show upd1 l' (lnIx (1 + x) (1 + y)) (some (fmsgs (1 + x) (1 + y) many ++ [(plM (1 + x) (1 + y) 0).p.endB])) (lnIx (1 + y) (1 + x)) = l' (lnIx (1 + y) (1 + x)) from if_neg hne]
    exact hms2
   have h9 := evUp (net_Net_Take_ev l3 gF (1 + x) (1 + y) many _ (plM (1 + x) (1 + y) 0) hln hms3 (by rw [List.length_append, fmsgs_len]; simp) (by rw [List.length_append, fmsgs_len, List.length_singleton]; omega) (by
    rw [show (fmsgs (1 + x) (1 + y) many ++ [(plM (1 + x) (1 + y) 0).p.endB]).getD many [] = (plM (1 + x) (1 + y) 0).p.endB by
     have := fmsgs_len (1 + x) (1 + y) many
     simp [List.getD, this]]
    exact read_back (plM_fit _ _ _) hg))
   rw [show (fmsgs (1 + x) (1 + y) many ++ [(plM (1 + x) (1 + y) 0).p.endB]).eraseIdx many = fmsgs (1 + x) (1 + y) many by
    have := fmsgs_len (1 + x) (1 + y) many
    rw [List.eraseIdx_append_of_length_le (by omega), this]
    simp] at h9
   generalize hl4 : upd1 l3 (lnIx (1 + x) (1 + y)) (some (fmsgs (1 + x) (1 + y) many)) = l4 at *
   have ha := evUp (net_Net_Len_ev l3 gF (1 + x) (1 + y) hin hin2)
   have hb := evUp (net_Net_Len_ev l3 gF (1 + y) (1 + x) hin2 hin)
   have hc := evUp (net_Net_Len_ev l4 gF (1 + x) (1 + y) hin hin2)
   rw [hln, if_pos rfl, hms3, List.length_append, fmsgs_len, List.length_singleton] at ha
   rw [hln2, if_pos rfl, hms4] at hb
   rw [hln, if_pos rfl, ← hl4, upd1_at, Option.getD_some, fmsgs_len, hl4] at hc
   unfold avMsg mCells plM at h9
   have w1 : ((many : Int) == 0) = false := by
    simp only [beq_eq_false_iff_ne]
    omega
   have w2 : ((many : Int) == 64) = false := by
    simp only [beq_eq_false_iff_ne]
    omega
   have w3 : ((many : Int) == (many : Int)) = true := by simp
   have w4 : ¬ (many : Int) > 64 := by omega
   have w5 : (((many : Int) + 1) == (many : Int)) = false := by
    simp only [beq_eq_false_iff_ne]
    omega
   have w6 : (((many : Int) + 1) == ((many : Int) + 1)) = true := by simp
   simp (disch := omega) only [go_sem, seval, i_law21_NetFull, h1, h2, h3, h4, h5, k2, h6, h8, h9, ha, hb, hc, q1, q2, q3, w1, w2, w3, w4, w5, w6]
end Go.Proofs.Ytdgfbfkjdflabaa
namespace Go.Proofs.Ytdgfbfkjdflabaa
open Go.Ev
open Go.ChangeShapes Go.WideShapes Go.ChangeAt Go.RowKit
theorem own : ownKnob Try.prog.godebug = none := by kernel_rfl
theorem laidOut : laidOutB Try.prog = true := by kernel_rfl
mutual
theorem bulk_eq {H : Type} : ∀ d : DataW H, Rows.uptoBulk d = bulkD d
 | .lit l => by cases l <;> simp [Rows.uptoBulk, bulkD]
 | .nil => by simp [Rows.uptoBulk, bulkD]
 | .ptr d => by simp [Rows.uptoBulk, bulkD, bulk_eq d]
 | .slice e s => by simp [Rows.uptoBulk, bulkD, bulks_eq e, bulks_eq s]
 | .agg p => by simp [Rows.uptoBulk, bulkD, bulks_eq p]
 | .iface _ d => by simp [Rows.uptoBulk, bulkD, bulk_eq d]
 | .map e => by simp [Rows.uptoBulk, bulkD, bulkEs_eq e]
 | .held _ => by simp [Rows.uptoBulk, bulkD]
theorem bulks_eq {H : Type} : ∀ l : List (DataW H), Rows.uptoBulkAll l = bulkDs l
 | [] => by simp [Rows.uptoBulkAll, bulkDs]
 | d :: r => by simp [Rows.uptoBulkAll, bulkDs, bulk_eq d, bulks_eq r]
theorem bulkEs_eq {H : Type} : ∀ l : List (Lit × DataW H), Rows.uptoBulkEntries l = bulkEs l
 | [] => by simp [Rows.uptoBulkEntries, bulkEs]
 | (x, d) :: r => by
  simp only [Rows.uptoBulkEntries, bulkEs, bulkEs_eq r]
  cases x <;> simp [Rows.uptoBulkEntry, bulkE, bulk_eq d]
end
theorem small_le {H : Type} {ds : List (DataW H)} (h : Rows.uptoSmall H (ds ++ []) = true) : bulkDs ds ≤ 1048576 := by
 have h1 : Rows.uptoBulkAll (ds ++ []) ≤ 1048576 := of_decide_eq_true h
 rwa [List.append_nil, bulks_eq] at h1
end Go.Proofs.Ytdgfbfkjdflabaa
namespace Go.Proofs.Ytdgfbfkjdflabaa
open Go.Ev
open Go.RowKit Go.ChangeShapes Go.WideShapes Go.ChangeAt
theorem inI_wf {i : Int} (h : (Lit.int .i64 i).wf = true) : inI i = true := by
 simp [Lit.wf, IntKind.has, IntKind.min, IntKind.max, IntKind.signed, IntKind.bits] at h
 simp only [inI, decide_eq_true_eq]
 omega
theorem law_postN {H : Type} {enc : TypeId × Value → H} {P : Program} {fn : Func} {s : ChangeSpec} {tab : Nat → Option Ev.Fn} {G : Cf} {f : Nat} {T : List TypeId} {tb : TypeId} (ht : TabOk P tab) (hX : XOk P G) (hG : ∀ g, G.G g = []) (hl : laidOutB P = true) (hT : tyOk P T = true)
  (hp : ∀ t ∈ fn.params.toList, t ∈ T) (hread : (fn.params.toList.all fun t => P.readableRec t && decide (t < P.types.size)) = true) (hres : fn.resultTypes = #[tb]) (htb : P.underlying tb = some .bool) (hvars : s.vars = [])
  (hfn : ∀ (ds : List (DataW H)), ds.length = fn.params.size → s.fn H ds = { results := [.lit (.bool true)], args := ds })
  {W : World} {base : Nat} {args : Array Value} {ds gs : List (DataW H)} {before : List MemPlace} (hval : ∀ (j : Nat) t v, fn.params[j]? = some t → args[j]? = some v → Value.okWide P W .any base t v)
  (hW : DataW.Whole enc P fn.params.toList s.vars false W args.toList ds gs before)
  (hev : ∀ ess : List (List C), ess.length = fn.params.toList.length → cBLL ess ≤ bulkDs ds → (∀ (j : Nat) (t : TypeId) (es : List C), fn.params.toList[j]? = some t → ess[j]? = some es → ∃ n, TypC P n t es) → ∃ outs, Ev tab G f (argsOf P fn.params.toList ess) [] = some ([.s (.bool true)], outs)) (hreal : real f = f := by decide) (hlt : f < 2000000 := by decide) :
  Calls P f args W fun e W' => ∃ v, e = .returned v ∧ s.post enc P fn false true false false W args v W' := by
 have hW' := hW
 obtain ⟨p, q, hA, hV, rfl, hfz, hnd⟩ := hW
 rw [hvars] at hV
 obtain ⟨rfl, rfl⟩ := trodVars_none hV
 have hlen : ∀ {ts : List TypeId} {vs : List Value} {ds : List (DataW H)} {ps : List MemPlace}, DataW.TrodAll enc P W 0 (fun _ => true) true ts vs ds ps → ds.length = ts.length := by
  intro ts
  induction ts with
  | nil =>
   intro vs ds ps h
   obtain ⟨_, h2, _⟩ := trodAll_nil h
   simp [h2]
  | cons t ts ih =>
   intro vs ds ps h
   obtain ⟨v, vs', d, ds', p, q, _, h2, _, _, h3⟩ := trodAll_cons h
   rw [h2]
   simp [ih h3]
 obtain ⟨ess, a1, a2, a3, a4, a5, a6⟩ := args_in (r := .any) (base := base) hT hp hA fun j t v h1 h2 => hval j t v (by simpa using h1) (by simpa using h2)
 obtain ⟨outs, he⟩ := hev ess a1 a2 a3
 have hc := law_calls (w := W) ht hX hG hreal he a4 a5 a6 hlt
 have hargs : args.toList.toArray = args := by simp
 rw [hargs] at hc
 refine hc.mono fun e W' ⟨h1, h2⟩ => ⟨_, h1, ?_⟩
 have hf := hfn ds (by simpa using hlen hA)
 refine ⟨ds, [], _, [], p, [], hW', ?_, ?_, ?_, h2.frame _, fun h => by cases h⟩
 ·rw [List.append_nil, hf, hres]
  exact trodAll_mk1 (shut_bool htb _)
 ·rw [List.append_nil, hf]
  exact trodAll_stays hl h2 hread hA
 ·rw [hvars]
  rw [List.append_nil, hf]
  rfl
end Go.Proofs.Ytdgfbfkjdflabaa
