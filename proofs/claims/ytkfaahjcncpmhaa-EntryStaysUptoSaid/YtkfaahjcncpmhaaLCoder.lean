/-
  coder.Bytes, and a reader, by the evaluator.
-/
import Derived.Test.YtkfaahjcncpmhaaLNum
import Derived.Test.YtkfaahjcncpmhaaLClone
import Derived.Test.YtkfaahjcncpmhaaLCode0
set_option linter.unusedSimpArgs false
set_option linter.unusedVariables false
set_option maxRecDepth 200000
set_option maxHeartbeats 4000000
namespace Go.Proofs.Ytkfaahjcncpmhaa
open Go.Ev

/-- Bytes' bytes. -/
def byts (b : List UInt8) : List UInt8 := num b.length ++ b
theorem byts_len (b : List UInt8) : (byts b).length ≤ b.length + 9 := by
  have := num_len b.length
  simp [byts]; omega
theorem coder_Bytes_ev (b : List UInt8) (h : b.length ≤ 1073741824) : Ev tab G0 n_coder_Bytes [.sl true (eB b)] [] = some ([.sl true (eB (byts b))], []) := by
  have h1 := coder_Number_ev b.length (by omega)
  have h2 := num_len b.length
  refine Ev_run t_coder_Bytes rfl rfl ?_
  simp (maxSteps := 1000000) (disch := first | omega | (simp only [lens, List.length_map]; omega)) only [go_sem, ↓reduceIte, Nat.reduceSub, Nat.reduceAdd, Nat.reduceMul, Nat.reduceLeDiff, Nat.reduceLT, Nat.reduceEqDiff, Nat.reduceBEq, Int.reduceLE, Int.reduceLT, Int.reduceEq, Int.reduceNeg, Int.reduceAdd, Int.reduceSub, Int.reduceMul, Int.reduceToNat, i_coder_Bytes, h1, byts]
theorem ref02_Bytes_ev (b : List UInt8) (h : b.length ≤ 1073741824) : Ev tab G0 n_ref02_Bytes [.sl true (eB b)] [] = some ([.sl true (eB (byts b))], []) := by
  have h1 := ref02_Number_ev b.length (by omega)
  have h2 := num_len b.length
  refine Ev_run t_ref02_Bytes rfl rfl ?_
  simp (maxSteps := 1000000) (disch := first | omega | (simp only [lens, List.length_map]; omega)) only [go_sem, ↓reduceIte, Nat.reduceSub, Nat.reduceAdd, Nat.reduceMul, Nat.reduceLeDiff, Nat.reduceLT, Nat.reduceEqDiff, Nat.reduceBEq, Int.reduceLE, Int.reduceLT, Int.reduceEq, Int.reduceNeg, Int.reduceAdd, Int.reduceSub, Int.reduceMul, Int.reduceToNat, i_ref02_Bytes, h1, byts]

/-- A reader: what is left; whether something was amiss. -/
structure Rd where
  b : List UInt8
  bad : Bool
abbrev rO (r : Rd) : Ev.Obj := .var [.sl true (eB r.b), bo r.bad]
def Rd.take (r : Rd) (n : Int) : List UInt8 × Rd := if r.bad = true then ([], ⟨r.b, true⟩) else if r.b.length < n then ([], ⟨r.b, true⟩) else (r.b.take n.toNat, ⟨r.b.drop n.toNat, false⟩)
theorem Rd.take_le (r : Rd) (n : Int) : (r.take n).1.length ≤ r.b.length ∧ (r.take n).1.length ≤ n.toNat ∧ (r.take n).2.b.length ≤ r.b.length := by
  unfold Rd.take
  split
  · simp
  · split
    · simp
    · simp
      omega
theorem coder_NewReader_ev (b : List UInt8) (h : b.length ≤ 1073741824) : Ev tab G0 n_coder_NewReader [.sl true (eB b)] [] = some ([.ptr 0 0], [rO ⟨b, false⟩]) := by
  have h1 := clone_bytes_ev b (by omega)
  refine Ev_run t_coder_NewReader rfl rfl ?_
  simp (maxSteps := 1000000) (disch := first | omega | (simp only [lens, List.length_map]; omega)) only [go_sem, ↓reduceIte, Nat.reduceSub, Nat.reduceAdd, Nat.reduceMul, Nat.reduceLeDiff, Nat.reduceLT, Nat.reduceEqDiff, Nat.reduceBEq, Int.reduceLE, Int.reduceLT, Int.reduceEq, Int.reduceNeg, Int.reduceAdd, Int.reduceSub, Int.reduceMul, Int.reduceToNat, i_coder_NewReader, h1]
theorem coder_take_ev (r : Rd) (n : Int) (hn : 0 ≤ n ∧ n < 9223372036854775808) (h : r.b.length ≤ 1073741824) : Ev tab G0 n_coder_Reader_take [.ptr 0 0, i64 n] [rO r] = some ([.sl true (eB (r.take n).1)], [rO (r.take n).2]) := by
  obtain ⟨b, bad⟩ := r
  refine Ev_run t_coder_Reader_take rfl rfl ?_
  simp only [Rd.take] at h ⊢
  simp (maxSteps := 1000000) (disch := first | omega | (simp only [lens, List.length_map]; omega)) only [go_sem, ↓reduceIte, Nat.reduceSub, Nat.reduceAdd, Nat.reduceMul, Nat.reduceLeDiff, Nat.reduceLT, Nat.reduceEqDiff, Nat.reduceBEq, Int.reduceLE, Int.reduceLT, Int.reduceEq, Int.reduceNeg, Int.reduceAdd, Int.reduceSub, Int.reduceMul, Int.reduceToNat, i_coder_Reader_take]
  cases bad <;> simp only [Bool.false_eq_true, if_false, if_true, Bool.true_eq_false]
  · split <;> rfl
  · rfl
def Rd.byte (r : Rd) : UInt8 × Rd := ((r.take 1).1.getD 0 0, (r.take 1).2)
theorem coder_Byte_ev (r : Rd) (h : r.b.length ≤ 1073741824) : Ev tab G0 n_coder_Reader_Byte [.ptr 0 0] [rO r] = some ([u8 r.byte.1.toNat], [rO r.byte.2]) := by
  have h1 := coder_take_ev r 1 (by omega) h
  refine Ev_run t_coder_Reader_Byte rfl rfl ?_
  simp only [Rd.byte]
  generalize r.take 1 = q at *
  obtain ⟨l, r2⟩ := q
  cases l with
  | nil => simp (maxSteps := 1000000) (disch := first | omega | (simp only [lens, List.length_map]; omega)) only [go_sem, ↓reduceIte, Nat.reduceSub, Nat.reduceAdd, Nat.reduceMul, Nat.reduceLeDiff, Nat.reduceLT, Nat.reduceEqDiff, Nat.reduceBEq, Int.reduceLE, Int.reduceLT, Int.reduceEq, Int.reduceNeg, Int.reduceAdd, Int.reduceSub, Int.reduceMul, Int.reduceToNat, i_coder_Reader_Byte, h1]; simp
  | cons x l => simp (maxSteps := 1000000) (disch := first | omega | (simp only [lens, List.length_map]; omega)) only [go_sem, ↓reduceIte, Nat.reduceSub, Nat.reduceAdd, Nat.reduceMul, Nat.reduceLeDiff, Nat.reduceLT, Nat.reduceEqDiff, Nat.reduceBEq, Int.reduceLE, Int.reduceLT, Int.reduceEq, Int.reduceNeg, Int.reduceAdd, Int.reduceSub, Int.reduceMul, Int.reduceToNat, i_coder_Reader_Byte, h1]
/-- A number, by its bytes. -/
def beV (l : List UInt8) : Int := l.foldl (fun v x => v * 256 + x.toNat) 0
def Rd.num (r : Rd) : Int × Rd :=
  if r.byte.1.toNat ≤ 247 then (r.byte.1.toNat, r.byte.2) else
  let q := r.byte.2.take (r.byte.1.toNat - 247)
  if q.1.length = 0 ∨ q.1.getD 0 0 = 0 ∨ beV q.1 ≤ 247 then (0, ⟨q.2.b, true⟩) else (beV q.1, q.2)
theorem beV_snoc (l : List UInt8) (x : UInt8) : beV (l ++ [x]) = beV l * 256 + x.toNat := by simp [beV]
theorem beV_nn : ∀ (l : List UInt8), 0 ≤ beV l ∧ beV l < 256 ^ l.length := by
  intro l
  have key : ∀ (n : Nat) (l : List UInt8), l.length = n → 0 ≤ beV l ∧ beV l < 256 ^ n := by
    intro n
    induction n with
    | zero => intro l h; simp at h; subst h; simp [beV]
    | succ n ih =>
      intro l h
      rcases List.eq_nil_or_concat l with rfl | ⟨l', x, rfl⟩
      · simp at h
      · simp at h
        obtain ⟨h1, h2⟩ := ih l' h
        have := x.toNat_lt
        rw [List.concat_eq_append, beV_snoc, Int.pow_succ]
        omega
  exact key _ l rfl
theorem beV_lt {l : List UInt8} {n : Nat} (h : l.length ≤ n) (hn : n ≤ 8) : 0 ≤ beV l ∧ beV l < 256 ^ n := by
  have := beV_nn l
  have h2 := Nat.pow_le_pow_right (n := 256) (by decide) h
  exact ⟨this.1, Int.lt_of_lt_of_le this.2 (by exact_mod_cast h2)⟩
theorem take_snoc {l : List UInt8} {i : Nat} (h : i < l.length) : l.take (i + 1) = l.take i ++ [l.getD i 0] := by
  rw [List.take_add_one, List.getElem?_eq_getElem h]
  simp [List.getD, h]
theorem creader_loop : ∀ (n : Nat) (l : List UInt8) (i : Int) (r : Rd), 0 ≤ i → i + n = l.length → l.length ≤ 8 → L_coder_Reader_Number_0 (s_coder_Reader_Number_K0 (.ptr 0 0) (.sl true (eB l)) (u64 (beV (l.take i.toNat))) (.sl true (eB l)) (i64 l.length) (i64 i) [some (rO r)]) = some (.exit 0, s_coder_Reader_Number_J0 (.ptr 0 0) (.sl true (eB l)) (u64 (beV l)) [some (rO r)])
  | 0, l, i, r, h1, h2, h3 => by
    rw [L_coder_Reader_Number_0_eq]
    have : l.take i.toNat = l := List.take_of_length_le (by omega)
    simp (maxSteps := 1000000) (disch := first | omega | (simp only [lens, List.length_map]; omega)) only [go_sem, ↓reduceIte, Nat.reduceSub, Nat.reduceAdd, Nat.reduceMul, Nat.reduceLeDiff, Nat.reduceLT, Nat.reduceEqDiff, Nat.reduceBEq, Int.reduceLE, Int.reduceLT, Int.reduceEq, Int.reduceNeg, Int.reduceAdd, Int.reduceSub, Int.reduceMul, Int.reduceToNat, i_coder_Reader_Number_b0, this]
  | n + 1, l, i, r, h1, h2, h3 => by
    rw [L_coder_Reader_Number_0_eq]
    have ih := creader_loop n l (i + 1) r (by omega) (by omega) h3
    have e : (i + 1).toNat = i.toNat + 1 := by omega
    rw [e, take_snoc (by omega), beV_snoc] at ih
    have h4 := beV_lt (l := l.take i.toNat) (n := 7) (by simp; omega) (by omega)
    have h5 := (l.getD i.toNat 0).toNat_lt
    simp (maxSteps := 1000000) (disch := first | omega | (simp only [lens, List.length_map]; omega)) only [go_sem, ↓reduceIte, Nat.reduceSub, Nat.reduceAdd, Nat.reduceMul, Nat.reduceLeDiff, Nat.reduceLT, Nat.reduceEqDiff, Nat.reduceBEq, Int.reduceLE, Int.reduceLT, Int.reduceEq, Int.reduceNeg, Int.reduceAdd, Int.reduceSub, Int.reduceMul, Int.reduceToNat, i_coder_Reader_Number_b0, or_low, ih]

theorem u8z {x : UInt8} : ((x.toNat : Int) = 0) = (x = 0) := by
  refine propext ⟨fun h => ?_, fun h => by subst h; rfl⟩
  have h2 : x.toNat = 0 := by omega
  exact UInt8.toNat_inj.1 (by simpa using h2)
theorem Rd.byte_le (r : Rd) : r.byte.2.b.length ≤ r.b.length := (r.take_le 1).2.2
theorem coder_ReaderNumber_ev (r : Rd) (h : r.b.length ≤ 1073741824) : Ev tab G0 n_coder_Reader_Number [.ptr 0 0] [rO r] = some ([u64 r.num.1], [rO r.num.2]) := by
  have h1 := coder_Byte_ev r h
  have h2 := r.byte_le
  simp only [Rd.num]
  generalize r.byte = q at *
  obtain ⟨c, r1⟩ := q
  simp only at *
  have hc := c.toNat_lt
  by_cases hc2 : c.toNat ≤ 247
  · rw [if_pos hc2]
    refine Ev_run t_coder_Reader_Number rfl rfl ?_
    simp (maxSteps := 1000000) (disch := first | omega | (simp only [lens, List.length_map]; omega)) only [go_sem, ↓reduceIte, Nat.reduceSub, Nat.reduceAdd, Nat.reduceMul, Nat.reduceLeDiff, Nat.reduceLT, Nat.reduceEqDiff, Nat.reduceBEq, Int.reduceLE, Int.reduceLT, Int.reduceEq, Int.reduceNeg, Int.reduceAdd, Int.reduceSub, Int.reduceMul, Int.reduceToNat, i_coder_Reader_Number, h1]
  · rw [if_neg hc2]
    have h3 := coder_take_ev r1 (c.toNat - 247) (by omega) (by omega)
    have h4 := r1.take_le (c.toNat - 247)
    generalize r1.take (c.toNat - 247) = q at *
    obtain ⟨l, r2⟩ := q
    simp only at *
    have h5 := creader_loop l.length l 0 r2 (by omega) (by omega) (by omega)
    try simp (maxSteps := 1000000) (disch := first | omega | (simp only [lens, List.length_map]; omega)) only [go_sem, ↓reduceIte, Nat.reduceSub, Nat.reduceAdd, Nat.reduceMul, Nat.reduceLeDiff, Nat.reduceLT, Nat.reduceEqDiff, Nat.reduceBEq, Int.reduceLE, Int.reduceLT, Int.reduceEq, Int.reduceNeg, Int.reduceAdd, Int.reduceSub, Int.reduceMul, Int.reduceToNat] at h5
    have e0 : beV [] = 0 := rfl
    rw [e0] at h5
    refine Ev_run t_coder_Reader_Number rfl rfl ?_
    simp (maxSteps := 1000000) (disch := first | omega | (simp only [lens, List.length_map]; omega)) only [go_sem, ↓reduceIte, Nat.reduceSub, Nat.reduceAdd, Nat.reduceMul, Nat.reduceLeDiff, Nat.reduceLT, Nat.reduceEqDiff, Nat.reduceBEq, Int.reduceLE, Int.reduceLT, Int.reduceEq, Int.reduceNeg, Int.reduceAdd, Int.reduceSub, Int.reduceMul, Int.reduceToNat, i_coder_Reader_Number, h1, h3, h5, u8z]
    (repeat' split) <;> first | rfl | (exfalso; omega) | (simp_all; done) | (simp_all; omega)
theorem Rd.num_le (r : Rd) : r.num.2.b.length ≤ r.b.length ∧ 0 ≤ r.num.1 ∧ r.num.1 < 18446744073709551616 := by
  have h2 := r.byte_le
  simp only [Rd.num]
  have hc := r.byte.1.toNat_lt
  split
  · simp only; omega
  · rename_i h1
    have h4 := r.byte.2.take_le (r.byte.1.toNat - 247)
    have h5 := beV_lt (l := (r.byte.2.take (r.byte.1.toNat - 247)).1) (n := 8) (by omega) (by omega)
    split
    · simp only; omega
    · simp only; omega
def Rd.bytes (r : Rd) (most : Int) : List UInt8 × Rd := let q := r.num
  if q.2.bad = true ∨ most < 0 ∨ most < q.1 ∨ q.2.b.length < q.1 then ([], ⟨q.2.b, true⟩) else q.2.take q.1
theorem coder_ReaderBytes_ev (r : Rd) (most : Int) (hm : -9223372036854775808 ≤ most ∧ most < 9223372036854775808) (h : r.b.length ≤ 1073741824) : Ev tab G0 n_coder_Reader_Bytes [.ptr 0 0, i64 most] [rO r] = some ([.sl true (eB (r.bytes most).1)], [rO (r.bytes most).2]) := by
  have h1 := coder_ReaderNumber_ev r h
  have h2 := r.num_le
  simp only [Rd.bytes]
  generalize r.num = q at *
  obtain ⟨n, r1⟩ := q
  simp only at *
  have h3 := fun (hn : 0 ≤ n ∧ n < 9223372036854775808) => coder_take_ev r1 n hn (by omega)
  refine Ev_run t_coder_Reader_Bytes rfl rfl ?_
  simp (maxSteps := 1000000) (disch := first | omega | (simp only [lens, List.length_map]; omega)) only [go_sem, ↓reduceIte, Nat.reduceSub, Nat.reduceAdd, Nat.reduceMul, Nat.reduceLeDiff, Nat.reduceLT, Nat.reduceEqDiff, Nat.reduceBEq, Int.reduceLE, Int.reduceLT, Int.reduceEq, Int.reduceNeg, Int.reduceAdd, Int.reduceSub, Int.reduceMul, Int.reduceToNat, i_coder_Reader_Bytes, h1, h3]
  (repeat' split) <;> first | rfl | (exfalso; omega) | (simp_all; done) | (simp_all; omega)
def Rd.fin (r : Rd) : Int := if r.bad = true then 3 else if r.b.length > 0 then 4 else 0
theorem coder_End_ev (r : Rd) (h : r.b.length ≤ 1073741824) : Ev tab G0 n_coder_Reader_End [.ptr 0 0] [rO r] = some ([errV r.fin], [rO r]) := by
  refine Ev_run t_coder_Reader_End rfl rfl ?_
  simp (maxSteps := 1000000) (disch := first | omega | (simp only [lens, List.length_map]; omega)) only [go_sem, ↓reduceIte, Nat.reduceSub, Nat.reduceAdd, Nat.reduceMul, Nat.reduceLeDiff, Nat.reduceLT, Nat.reduceEqDiff, Nat.reduceBEq, Int.reduceLE, Int.reduceLT, Int.reduceEq, Int.reduceNeg, Int.reduceAdd, Int.reduceSub, Int.reduceMul, Int.reduceToNat, i_coder_Reader_End, Rd.fin, errV]
  (repeat' split) <;> first | rfl | (exfalso; omega) | (simp_all; done) | (simp_all; omega)

end Go.Proofs.Ytkfaahjcncpmhaa
