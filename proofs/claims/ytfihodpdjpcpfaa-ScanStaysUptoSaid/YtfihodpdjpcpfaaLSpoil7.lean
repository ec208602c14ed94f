/-
  The region that writes, from its start to its end.
-/
import Derived.Test.YtfihodpdjpcpfaaLSpoil6
set_option linter.unusedSimpArgs false
set_option linter.unusedVariables false
set_option maxRecDepth 200000
set_option maxHeartbeats 4000000
namespace Go.Proofs.Ytfihodpdjpcpfaa
open Go.Ev

/-- Below a bound all is as it was. -/
structure Low (N : Nat) (w w' : World) : Prop where
  size : w.heap.size ≤ w'.heap.size
  low : ∀ b, b < N → w'.heap[b]? = w.heap[b]?
  os : w'.os = w.os
  tape : w'.tape = w.tape
  output : w'.output = w.output
  nf : NF N w → NF N w'
theorem Low.refl (N : Nat) (w : World) : Low N w w := ⟨Nat.le_refl _, fun _ _ => rfl, rfl, rfl, rfl, fun h => h⟩
theorem Low.trans {N : Nat} {a b c : World} (h : Low N a b) (h' : Low N b c) : Low N a c :=
  ⟨Nat.le_trans h.size h'.size, fun k hk => (h'.low k hk).trans (h.low k hk), h'.os.trans h.os, h'.tape.trans h.tape, h'.output.trans h.output, fun hn => h'.nf (h.nf hn)⟩
theorem noO (id : Nat) : getO [none, none, none] id = none := by
  match id with
  | 0 => rfl
  | 1 => rfl
  | 2 => rfl
  | k + 3 => simp [getO]
theorem Low.ofStep {D : Nat → Prop} {N : Nat} {x x' : Cx} {h' : Heap} (hN : N ≤ x.w.heap.size) (hs : Step D x [none, none, none] x' h') : Low N x.w x'.w :=
  ⟨hs.size, fun b hb => hs.frame b (Nat.lt_of_lt_of_le hb hN) (fun id o hg => by rw [noO] at hg; cases hg), hs.os, hs.tape, hs.output, hs.nf N⟩
theorem Low.set {N : Nat} {w : World} {b o : Nat} {v : Value} (hb : N ≤ b) : Low N w (w.setCell ⟨b, o, none⟩ v) :=
  ⟨by simp, fun k hk => by
    simp only [World.setCell]
    rw [Array.getElem?_modify, if_neg (by omega)], rfl, rfl, rfl, fun hn k q hk hs => by
    rw [World.frozen?_setCell]
    refine hn k q hk ?_
    by_cases c : (⟨b, o, none⟩ : Addr) = ⟨k, q, none⟩
    · rw [← c] at hs ⊢
      cases hcl : w.cell? ⟨b, o, none⟩ with
      | some u => rfl
      | none =>
        exfalso
        revert hs hcl
        simp only [World.cell?, World.setCell, Array.getElem?_modify, if_true]
        cases hw : w.heap[b]? with
        | none => simp
        | some ob =>
          cases ob <;> simp
    · rwa [World.cell?_setCell_other _ _ _ _ c] at hs⟩
abbrev stK (v3 v5 v6 v7 v9 v10 : Value) (ps : List (List Int × List Int)) (i k : Nat) : St := s_law06_ScanStays_K1 (.s v3) (.s v5) (.s v6) (.s v7) (.sl false (qP ps)) (.s v9) (.s v10) (i64 i) (i64 k) [none, none, none]
theorem write12 {id : Nat} {x : Cx} {a : Act} {v3 v5 v6 v7 v9 v10 : Value} {ps : List (List Int × List Int)} {i k : Nat} (hs : RelS G0 x (stK v3 v5 v6 v7 v9 v10 ps i k) a) (hnf : NF x.B0 x.w) (hi : i < ps.length) (hk : k < (ps.getD i ([], [])).2.length)
    {Q : Exit → Act → World → Prop} (hQ : ∀ ps' x' a', likeQ ps ps' → RelS G0 x' (stK v3 v5 v6 v7 v9 v10 ps' i k) a' → x'.B0 = x.B0 → Low x.B0 x.w x'.w → a'.defers = a.defers → Q .normal a' x'.w) : (Code.region id ops12 true).wp Try.prog Q a x.w := by
  generalize hp : ps.getD i ([], []) = p at hk
  obtain ⟨l, m⟩ := p
  generalize hz : m.getD k 0 = z
  have he := evalI v3 v5 v6 v7 v9 v10 ps i k z l m hi hp hk hz
  obtain ⟨n, hp2, he2⟩ := reg_of he
  have hF := evN_ok (G := G0) tabOk xokN gfN n
  obtain ⟨h1, h2, h3⟩ := region_any (Q := onlyN fun a' w' => ∃ x', x'.w = w' ∧ RelS G0 x' (stI v3 v5 v6 v7 v9 v10 ps i k z l m) a' ∧ Step (fun _ => True) x [none, none, none] x' [none, none, none] ∧ a'.defers = a.defers) hF trI hs hp2 he2 (fun x' a' hs' hst hd => ⟨x', rfl, hs', hst, hd⟩)
  refine wp_region_any h1 ?_
  have hg : ∀ (i : Nat) (p : Oper), ops12[i]? = some p → p.guard = none := fun i p hp => by
    have := List.all_eq_true.1 guards12 p (by
      have h4 : ops12.toList[i]? = some p := by simpa using hp
      exact List.mem_of_getElem? h4)
    simpa using this
  have hall : ∀ j, j < 16 → ∃ e ∈ store12.after, e.on = j ∧ Region.binds .any e = true := fun j hj => by
    have h4 := List.all_eq_true.1 all12 j (List.mem_range.2 hj)
    obtain ⟨e, h5, h6⟩ := List.any_eq_true.1 h4
    simp only [Bool.and_eq_true, decide_eq_true_eq] at h6
    exact ⟨e, by simpa using h5, h6.1, h6.2⟩
  refine any_last masks12 ops12_size last12 hall (d := idle12) rfl hg (hg 16 store12 last12) (v := .bool true) (fun a w => rfl) dst12 ?_ ops12.size _ a _ ?_ ?_ ?_ ?_ (G := fun a' w' => ∃ x', x'.w = w' ∧ RelS G0 x' (stI v3 v5 v6 v7 v9 v10 ps i k z l m) a' ∧ Step (fun _ => True) x [none, none, none] x' [none, none, none] ∧ a'.defers = a.defers)
  · rintro a' w' ⟨x', rfl, hs', hst, hd⟩
    have r60 := hs'.val 60
    have r59 := hs'.val 59
    have r8 := hs'.val 8
    rw [show (stI v3 v5 v6 v7 v9 v10 ps i k z l m).t.getD 60 .undef = .daddr false [C.sc (.int .u8 z)] from rfl] at r60
    rw [show (stI v3 v5 v6 v7 v9 v10 ps i k z l m).t.getD 59 .undef = .s (.int .u8 (IntKind.u8.wrap (z + 1))) from rfl] at r59
    rw [show (stI v3 v5 v6 v7 v9 v10 ps i k z l m).t.getD 8 .undef = .sl false (qP ps) from rfl] at r8
    have e59 := r59.s_inv
    generalize e60 : a'.tmps.getD 60 undef = u60 at r60
    cases r60 with
    | daddr _ _ b o vals hc hr =>
      obtain ⟨⟨c1, c2⟩, c3⟩ := hc 0 (by simp)
      have c4 := hr 0 _ rfl
      generalize hv : vals 0 = u at c3 c4
      cases c4 with
      | sc _ hone =>
      have hb : x.B0 ≤ b := by rw [← hst.ext.b0]; exact c2.resolve_left (by simp)
      have hsz : x.B0 ≤ x.w.heap.size := hs.b0
      have hfz : x'.w.frozen? ⟨b, o, none⟩ = false := hst.nf _ hnf b o hb (by rw [show (⟨b, o, none⟩ : Addr) = ⟨b, o + 0, none⟩ from rfl, c3]; rfl)
      generalize e8 : a'.tmps.getD 8 undef = u8 at r8
      cases r8 with
      | sl _ _ _ hr8 =>
      obtain ⟨ps', hl, hrep⟩ := pairs_rep (z' := IntKind.u8.wrap (z + 1)) hr8 c3
      unfold Oper.wp
      rw [store12_run e60 e59 c3 hfz, Oper.upon_skip, dst12]
      have hj := relS_junk (w' := x'.w.setCell ⟨b, o, none⟩ (.int .u8 (IntKind.u8.wrap (z + 1)))) (l := qP ps') (keep_rel hs' i_law06_ScanStays_j3) rfl (fun _ => rfl) (by simp) rfl (by
        show RelV _ _ _ (a'.tmps.getD 8 undef)
        rw [e8]
        exact .sl false _ _ hrep)
      exact hQ ps' _ a' hl hj hst.ext.b0 ((Low.ofStep hsz hst).trans (Low.set hb)) hd
  · rw [ops12_size]
    exact Nat.le_trans (List.length_filter_le _ _) (by simp)
  · exact ⟨by simp, fun j o e _ hl _ _ => by
      by_cases hj : j < ops12.size <;> simp [Array.getD_eq_getD_getElem?, hj] at hl⟩
  · rw [Array.getD_eq_getD_getElem?, ops12_size]
    simp
  · rw [opsI_size] at h3
    rw [ops12_size]
    exact h3

end Go.Proofs.Ytfihodpdjpcpfaa
