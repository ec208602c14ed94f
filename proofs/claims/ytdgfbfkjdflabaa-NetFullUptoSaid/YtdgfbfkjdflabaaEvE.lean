/-
  What comes in, as the evaluator's values; and a law's row out of what the evaluator says of it.
-/
import Derived.Test.YtdgfbfkjdflabaaEvD
import Derived.Below
import GoSem.ClaimChange
import Derived.WalkKit
import Derived.ProofKit
import Derived.OpenShut
import Derived.ShutString
import Derived.ChangeOld
import Derived.SizedLaws
import Derived.Carry
import Derived.Attr
import Derived.JoinedCond
set_option linter.unusedSimpArgs false
set_option linter.unusedVariables false
namespace Go.Ev
open Go.RowKit
theorem mapM_some {α β : Type} {f : α → Option β} : ∀ {l : List α} {ys : List β}, l.mapM f = some ys → ys.length = l.length ∧ ∀ (i : Nat) (a : α), l[i]? = some a → ∃ y, f a = some y ∧ ys[i]? = some y
 | [], ys, h => by
  simp at h
  subst h
  exact ⟨rfl, fun i a h => by simp at h⟩
 | a :: l, ys, h => by
  simp only [List.mapM_cons, Option.bind_eq_bind, Option.bind_eq_some_iff] at h
  obtain ⟨y, h1, ys', h2, h3⟩ := h
  simp at h3
  subst h3
  obtain ⟨h4, h5⟩ := mapM_some h2
  refine ⟨by simp [h4], fun i b hb => ?_⟩
  cases i with
  | zero => simp at hb; subst hb; exact ⟨y, h1, rfl⟩
  | succ i => simpa using h5 i b (by simpa using hb)
def chunks (P : Program) (t : TypeId) : List (Nat × Nat × TypeId) := match P.underlying t with
 | some (.struct fs) => fs.toList.map fun f => (f.offset, P.cellsOf f.type, f.type)
 | some (.array n e) => (List.range n).map fun i => (i * P.cellsOf e, P.cellsOf e, e)
 | _ => []
def tiles : List (Nat × Nat × TypeId) → Nat → Nat → Bool
 | [], off, tot => off == tot
 | c :: r, off, tot => c.1 == off && tiles r (off + c.2.1) tot
def tyOk (P : Program) (T : List TypeId) : Bool := T.all fun t => match P.underlying t with
 | some .bool => true
 | some (.int _) => true
 | some .string => true
 | some (.slice e) => T.contains e && decide (0 < P.cellsOf e)
 | some (.struct _) => tiles (chunks P t) 0 (P.cellsOf t) && (chunks P t).all fun c => T.contains c.2.2
 | some (.array _ _) => tiles (chunks P t) 0 (P.cellsOf t) && (chunks P t).all fun c => T.contains c.2.2
 | _ => false
def TypC (P : Program) : Nat → TypeId → List C → Prop
 | 0, _, _ => False
 | n + 1, t, es => match P.underlying t with
  | some .bool => ∃ b, es = [.sc (.bool b)]
  | some (.int k) => ∃ i, es = [.sc (.int k i)] ∧ (Lit.int k i).wf = true
  | some .string => ∃ s : ByteArray, es = [.sc (.string s)] ∧ s.size ≤ maxLen
  | some (.slice e) => ∃ l : List (List C), es = [.sl l] ∧ ∀ x ∈ l, x.length = P.cellsOf e ∧ TypC P n e x
  | some (.struct _) => es.length = P.cellsOf t ∧ ∀ c ∈ chunks P t, TypC P n c.2.2 ((es.drop c.1).take c.2.1)
  | some (.array _ _) => es.length = P.cellsOf t ∧ ∀ c ∈ chunks P t, TypC P n c.2.2 ((es.drop c.1).take c.2.1)
  | _ => False
def allOld (w : World) : Nat → Nat → Prop := fun b _ => b < w.heap.size
def RepL (w : World) (es : List C) (vs : List Value) : Prop := es.length = vs.length ∧ ∀ (j : Nat) (c : C) (v : Value), es[j]? = some c → vs[j]? = some v → Rep w (allOld w) c v
theorem repL_one {w : World} {c : C} {v : Value} (h : Rep w (allOld w) c v) : RepL w [c] [v] := ⟨rfl, fun j c' v' h1 h2 => by
 cases j with
 | zero => simp at h1 h2; subst h1 h2; exact h
 | succ j => simp at h1⟩
theorem cell_lt {w : World} {a : Addr} {v : Value} (h : w.cell? a = some v) : a.block < w.heap.size ∧ a.spot = none := by
 unfold World.cell? at h
 split at h
 ·rename_i c t f hb
  refine ⟨(Array.getElem?_eq_some_iff.1 hb).1, ?_⟩
  split at h
  ·simp at h
  ·rename_i hs; simpa using hs
 ·simp at h
mutual
def bulkD {H : Type} : DataW H → Nat
 | .lit (.string bytes) => bytes.length + 1
 | .lit _ => 1
 | .nil => 1
 | .ptr d => bulkD d + 1
 | .slice elems spare => bulkDs elems + bulkDs spare + 1
 | .agg parts => bulkDs parts + 1
 | .iface _ d => bulkD d + 1
 | .map entries => bulkEs entries + 1
 | .held _ => 1
def bulkDs {H : Type} : List (DataW H) → Nat
 | [] => 0
 | d :: r => bulkD d + bulkDs r
def bulkEs {H : Type} : List (Lit × DataW H) → Nat
 | [] => 0
 | x :: r => bulkE x + bulkEs r
def bulkE {H : Type} : Lit × DataW H → Nat
 | (.string bytes, d) => bytes.length + bulkD d + 1
 | (_, d) => bulkD d + 1
end
mutual
def cB : C → Nat
 | .sc (.string s) => s.size + 1
 | .sc _ => 1
 | .sl l => cBLL l + 1
def cBL : List C → Nat
 | [] => 0
 | c :: r => cB c + cBL r
def cBLL : List (List C) → Nat
 | [] => 0
 | e :: r => cBL e + cBLL r
end
theorem cBL_append (a b : List C) : cBL (a ++ b) = cBL a + cBL b := by
 induction a with
 | nil => simp [cBL]
 | cons c a ih => simp only [List.cons_append, cBL, ih]; omega
theorem bulkD_pos {H : Type} (d : DataW H) : 1 ≤ bulkD d := by
 cases d with
 | lit l => cases l <;> simp [bulkD]
 | _ => simp [bulkD]
theorem cBLL_le {H : Type} : ∀ {l : List (List C)} {ds : List (DataW H)}, l.length = ds.length → (∀ (i : Nat) (e : List C) (d : DataW H), l[i]? = some e → ds[i]? = some d → cBL e ≤ bulkD d) → cBLL l ≤ bulkDs ds
 | [], _, _, _ => by simp [cBLL]
 | e :: l, [], hl, _ => by simp at hl
 | e :: l, d :: ds, hl, h => by
  have h1 := h 0 e d rfl rfl
  have h2 := cBLL_le (l := l) (ds := ds) (by simpa using hl) fun i e d h3 h4 => h (i + 1) e d (by simpa using h3) (by simpa using h4)
  simp only [cBLL, bulkDs]
  omega
theorem chunks_build {H : Type} {P : Program} {w : World} {n : Nat} {cs : List Value} : ∀ (l : List (Nat × Nat × TypeId)) (off : Nat), tiles l off cs.length = true →
  ∀ (ds : List (DataW H)), l.length = ds.length → (∀ (i : Nat) (c : Nat × Nat × TypeId) (d : DataW H), l[i]? = some c → ds[i]? = some d → ∃ es, RepL w es ((cs.drop c.1).take c.2.1) ∧ TypC P n c.2.2 es ∧ cBL es ≤ bulkD d) → off ≤ cs.length →
  ∃ es, RepL w es (cs.drop off) ∧ (∀ c ∈ l, off ≤ c.1 ∧ TypC P n c.2.2 ((es.drop (c.1 - off)).take c.2.1)) ∧ cBL es ≤ bulkDs ds
 | [], off, ht, ds, _, _, hle => by
  simp only [tiles, beq_iff_eq] at ht
  refine ⟨[], ⟨by simp [ht], fun j c v h => by simp at h⟩, fun c h => by simp at h, by simp [cBL]⟩
 | c :: l, off, ht, [], hl, hall, hle => by simp at hl
 | c :: l, off, ht, d :: ds, hl, hall, hle => by
  simp only [tiles, Bool.and_eq_true, beq_iff_eq] at ht
  obtain ⟨h1, h2⟩ := ht
  have hge : ∀ (l : List (Nat × Nat × TypeId)) (o tot : Nat), tiles l o tot = true → o ≤ tot := by
   intro l
   induction l with
   | nil => intro o tot h; simp only [tiles, beq_iff_eq] at h; omega
   | cons c l ih =>
    intro o tot h
    simp only [tiles, Bool.and_eq_true] at h
    have := ih _ _ h.2
    omega
  have hle2 := hge _ _ _ h2
  obtain ⟨es1, ⟨k1, k2⟩, k3, k4⟩ := hall 0 c d rfl rfl
  obtain ⟨es2, ⟨m1, m2⟩, m3, m4⟩ := chunks_build l (off + c.2.1) h2 ds (by simpa using hl) (fun i c' d' hc' hd' => hall (i + 1) c' d' (by simpa using hc') (by simpa using hd')) hle2
  rw [h1] at k1 k2
  have hl1 : es1.length = c.2.1 := by rw [k1]; simp; omega
  refine ⟨es1 ++ es2, ⟨by simp [hl1, m1]; omega, fun j e v he hv => ?_⟩, fun c' hc' => ?_, by rw [cBL_append, bulkDs]; omega⟩
  ·rw [List.getElem?_append] at he
   split at he
   ·rename_i hj
    refine k2 j e v he ?_
    rw [List.getElem?_take, if_pos (by omega)]
    exact hv
   ·rename_i hj
    refine m2 _ e v he ?_
    rw [List.getElem?_drop] at hv ⊢
    rw [← hv]
    congr 1
    omega
  ·rcases List.mem_cons.1 hc' with rfl | hc'
   ·refine ⟨by omega, ?_⟩
    have : c'.1 - off = 0 := by omega
    rw [this, List.drop_zero, List.take_append_of_le_length (by omega), List.take_of_length_le (by omega)]
    exact k3
   ·obtain ⟨q1, q2⟩ := m3 c' hc'
    refine ⟨by omega, ?_⟩
    rw [List.drop_append, List.drop_of_length_le (by omega), List.nil_append, hl1]
    have : c'.1 - off - c.2.1 = c'.1 - (off + c.2.1) := by omega
    rw [this]
    exact q2
theorem trod_rep {H : Type} {enc : TypeId × Value → H} {P : Program} {w : World} {spare : Nat → Bool} {held : Bool} {T : List TypeId} (hT : tyOk P T = true) : ∀ (n : Nat) {t : TypeId} {cs : List Value} {d : DataW H} {ps : List MemPlace}, t ∈ T →
  DataW.trod enc P w 0 spare held n t cs = some (d, ps) → ∃ es, RepL w es cs ∧ TypC P n t es ∧ cBL es ≤ bulkD d
 | 0, t, cs, d, ps, _, h => by simp [DataW.trod] at h
 | n + 1, t, cs, d, ps, ht, h => by
  have hty := List.all_eq_true.1 hT t ht
  unfold DataW.trod at h
  simp only [TypC]
  cases hu : P.underlying t with
  | none => rw [hu] at hty; simp at hty
  | some desc =>
   rw [hu] at hty h
   cases desc <;> simp only at hty <;> first
    | (simp at hty; done)
    | skip
   case bool =>
    rcases cs with _ | ⟨v, _ | ⟨v2, cs⟩⟩ <;> try (simp at h; done)
    cases v <;> simp at h
    rename_i b
    obtain ⟨rfl, _⟩ := h
    exact ⟨[.sc (.bool b)], repL_one (.sc _ rfl), ⟨b, rfl⟩, by simp [cBL, cB, bulkD]⟩
   case int k =>
    rcases cs with _ | ⟨v, _ | ⟨v2, cs⟩⟩ <;> try (simp at h; done)
    cases v <;> simp at h
    rename_i k2 i
    obtain ⟨⟨rfl, hw⟩, rfl, _⟩ := h
    exact ⟨[.sc (.int k2 i)], repL_one (.sc _ rfl), ⟨i, rfl, hw⟩, by simp [cBL, cB, bulkD]⟩
   case string =>
    rcases cs with _ | ⟨v, _ | ⟨v2, cs⟩⟩ <;> try (simp at h; done)
    cases v <;> simp at h
    rename_i s
    obtain ⟨hs, rfl, _⟩ := h
    exact ⟨[.sc (.string s)], repL_one (.sc _ rfl), ⟨s, rfl, hs⟩, by simp only [cBL, cB, bulkD]; rw [Array.length_toList]; exact Nat.le_refl _⟩
   case slice e =>
    simp only [Bool.and_eq_true, decide_eq_true_eq, List.contains_iff_mem] at hty
    obtain ⟨he, hpos⟩ := hty
    rcases cs with _ | ⟨v, _ | ⟨v2, cs⟩⟩ <;> try (simp at h; done)
    cases v <;> try (simp at h; done)
    rename_i base len cap
    cases base with
    | none =>
     have : len = 0 ∧ cap = 0 := by
      cases len <;> cases cap <;> simp at h <;> simp
     obtain ⟨rfl, rfl⟩ := this
     exact ⟨[.sl []], repL_one (.nil none 0 fun _ => rfl), ⟨[], rfl, fun x hx => by simp at hx⟩, by have := bulkD_pos d; simp only [cBL, cB, cBLL]; omega⟩
    | some a =>
     simp only at h
     split at h
     ·rename_i hc
      obtain ⟨elems, h1, h2⟩ := Option.bind_eq_some_iff.1 h
      obtain ⟨rest, _, h2'⟩ := Option.map_eq_some_iff.1 h2
      simp only [Prod.mk.injEq] at h2'
      obtain ⟨hd, _⟩ := h2'
      obtain ⟨h3, h4⟩ := mapM_some h1
      have key : ∀ i, i < len → ∃ vs es, w.cells? 0 (a.add (i * P.cellsOf e)) (P.cellsOf e) = some vs ∧ RepL w es vs ∧ TypC P n e es ∧ ∀ y, elems[i]? = some y → cBL es ≤ bulkD y.1 := fun i hi => by
       obtain ⟨y, h5, h5'⟩ := h4 i i (by simp [hi])
       obtain ⟨vs, h6, h7⟩ := Option.bind_eq_some_iff.1 h5
       obtain ⟨es, h8, h9, h10⟩ := trod_rep hT n he (show DataW.trod enc P w 0 spare held n e vs = some (y.1, y.2) from h7)
       exact ⟨vs, es, h6, h8, h9, fun z hz => by rw [h5'] at hz; injection hz with hz; subst hz; exact h10⟩
      have key2 : ∀ i, ∃ es : List C, i < len → ∃ vs, w.cells? 0 (a.add (i * P.cellsOf e)) (P.cellsOf e) = some vs ∧ RepL w es vs ∧ TypC P n e es ∧ ∀ y, elems[i]? = some y → cBL es ≤ bulkD y.1 := fun i => by
       by_cases hi : i < len
       ·obtain ⟨vs, es, k1, k2, k3, k4⟩ := key i hi
        exact ⟨es, fun _ => ⟨vs, k1, k2, k3, k4⟩⟩
       ·exact ⟨[], fun h => absurd h hi⟩
      let f : Nat → List C := fun i => Classical.choose (key2 i)
      have hf4 : ∀ i, i < len → ∃ vs, w.cells? 0 (a.add (i * P.cellsOf e)) (P.cellsOf e) = some vs ∧ RepL w (f i) vs ∧ TypC P n e (f i) ∧ ∀ y, elems[i]? = some y → cBL (f i) ≤ bulkD y.1 := fun i hi => Classical.choose_spec (key2 i) hi
      have hf : ∀ i, i < len → ∃ vs, w.cells? 0 (a.add (i * P.cellsOf e)) (P.cellsOf e) = some vs ∧ RepL w (f i) vs ∧ TypC P n e (f i) := fun i hi => by
       obtain ⟨vs, k1, k2, k3, _⟩ := hf4 i hi
       exact ⟨vs, k1, k2, k3⟩
      have hbulk : cBL [C.sl ((List.range len).map f)] ≤ bulkD d := by
       rw [← hd]
       have : cBLL ((List.range len).map f) ≤ bulkDs (elems.map (·.1)) := cBLL_le (by simpa using h3.symm) fun i x y hx hy => by
        rw [List.getElem?_map, Option.map_eq_some_iff] at hx hy
        obtain ⟨i', hi', rfl⟩ := hx
        obtain ⟨y0, hy0, rfl⟩ := hy
        obtain ⟨hlt, rfl⟩ := List.getElem?_eq_some_iff.1 hi'
        simp only [List.length_range] at hlt
        obtain ⟨_, _, _, _, k4⟩ := hf4 i hlt
        simp only [List.getElem_range]
        exact k4 y0 hy0
       simp only [cBL, cB, bulkD]
       omega
      have hcells : ∀ i vs, w.cells? 0 (a.add (i * P.cellsOf e)) (P.cellsOf e) = some vs → vs.length = P.cellsOf e ∧ ∀ k, k < P.cellsOf e → ∃ v, vs[k]? = some v ∧ w.cell? ((a.add (i * P.cellsOf e)).add k) = some v := fun i vs hvs => by
       unfold World.cells? at hvs
       rw [if_pos (Nat.zero_le _)] at hvs
       obtain ⟨m1, m2⟩ := mapM_some hvs
       refine ⟨by simpa using m1, fun k hk => ?_⟩
       obtain ⟨v, m3, m4⟩ := m2 k k (by simp [hk])
       exact ⟨v, m4, m3⟩
      have hflen : ∀ i, i < len → (f i).length = P.cellsOf e := fun i hi => by
       obtain ⟨vs, k1, k2, _⟩ := hf i hi
       rw [k2.1, (hcells i vs k1).1]
      refine ⟨[.sl ((List.range len).map f)], repL_one ?_, ⟨(List.range len).map f, rfl, fun x hx => ?_⟩, hbulk⟩
      ·by_cases h0 : len = 0
       ·subst h0
        exact .nil _ _ (by simp)
       ·have hspot : a.spot = none := by
         obtain ⟨vs, k1, _, _⟩ := hf 0 (by omega)
         obtain ⟨v, _, k3⟩ := (hcells 0 vs k1).2 0 hpos
         have := (cell_lt k3).2
         simpa [Addr.add] using this
        obtain ⟨b, o, sp⟩ := a
        simp only at hspot
        subst hspot
        have hlen : ((List.range len).map f).length = len := by simp
        have hcell : ∀ i k, i < len → k < P.cellsOf e → ∃ v, w.cell? ⟨b, o + (i * P.cellsOf e + k), none⟩ = some v ∧ ∀ c, (f i)[k]? = some c → Rep w (allOld w) c v := fun i k hi hk => by
         obtain ⟨vs, k1, k2, _⟩ := hf i hi
         obtain ⟨v, k3, k4⟩ := (hcells i vs k1).2 k hk
         refine ⟨v, ?_, fun c hc => k2.2 k c v hc k3⟩
         rw [← k4]
         congr 1
         simp only [Addr.add]
         split <;> split <;> simp_all <;> omega
        have hdiv : ∀ j, j < len * P.cellsOf e → j / P.cellsOf e < len ∧ j % P.cellsOf e < P.cellsOf e ∧ j / P.cellsOf e * P.cellsOf e + j % P.cellsOf e = j := fun j hj => ⟨Nat.div_lt_of_lt_mul (by rwa [Nat.mul_comm]), Nat.mod_lt _ hpos, Nat.div_add_mod' _ _⟩
        have : Rep w (allOld w) (.sl ((List.range len).map f)) (.slice (some ⟨b, o, none⟩) ((List.range len).map f).length cap) := by
         refine .sl _ (P.cellsOf e) b o cap (fun j => (w.cell? ⟨b, o + j, none⟩).getD undef) ?_ ?_ ?_ ?_ ?_
         ·intro hn
          have := congrArg List.length hn
          simp at this
          exact h0 this
         ·intro x hx
          obtain ⟨i, hi, rfl⟩ := List.mem_map.1 hx
          exact hflen i (List.mem_range.1 hi)
         ·rw [hlen]; exact hc.2.1
         ·intro j hj
          rw [hlen] at hj
          obtain ⟨d1, d2, d3⟩ := hdiv j hj
          obtain ⟨v, k1, _⟩ := hcell _ _ d1 d2
          rw [d3] at k1
          rw [k1]
          exact ⟨(cell_lt k1).1, rfl⟩
         ·intro i k x c hi hk
          rw [List.getElem?_map, Option.map_eq_some_iff] at hi
          obtain ⟨i', hi', rfl⟩ := hi
          obtain ⟨hlt, rfl⟩ := List.getElem?_eq_some_iff.1 hi'
          simp only [List.length_range] at hlt
          simp only [List.getElem_range] at hk
          have hk2 : k < P.cellsOf e := by
           rw [← hflen i hlt]
           exact (List.getElem?_eq_some_iff.1 hk).1
          obtain ⟨v, k1, k2⟩ := hcell i k hlt hk2
          rw [k1]
          exact k2 c hk
        rwa [hlen] at this
      ·obtain ⟨i, hi, rfl⟩ := List.mem_map.1 hx
       have hi := List.mem_range.1 hi
       obtain ⟨vs, _, _, k3⟩ := hf i hi
       exact ⟨hflen i hi, k3⟩
     ·simp at h
   case struct fs =>
    simp only [Bool.and_eq_true, List.all_eq_true, List.contains_iff_mem] at hty
    obtain ⟨h1, h2⟩ := hty
    simp only at h
    split at h
    ·rename_i hlen
     obtain ⟨xs, h3, h3'⟩ := Option.map_eq_some_iff.1 h
     simp only [Prod.mk.injEq] at h3'
     obtain ⟨hd, _⟩ := h3'
     obtain ⟨h4, h5⟩ := mapM_some h3
     rw [← hlen] at h1
     obtain ⟨es, ⟨k1, k2⟩, k3, k4⟩ := chunks_build (P := P) (w := w) (n := n) (cs := cs) (chunks P t) 0 h1 (xs.map (·.1)) (by simp [chunks, hu, h4]) (fun i c y hc hy => by
      have hc0 := List.mem_of_getElem? hc
      simp only [chunks, hu, List.getElem?_map, Option.map_eq_some_iff] at hc hy
      obtain ⟨f, hf, rfl⟩ := hc
      obtain ⟨z, hz, rfl⟩ := hy
      obtain ⟨y', h6, h6'⟩ := h5 i f hf
      rw [h6'] at hz
      injection hz with hz
      subst hz
      exact trod_rep hT n (h2 _ hc0) (show DataW.trod enc P w 0 spare held n f.type _ = some (y'.1, y'.2) from h6)) (Nat.zero_le _)
     refine ⟨es, ⟨by simpa using k1, by simpa using k2⟩, ⟨by rw [k1]; simpa using hlen, fun c hc => ?_⟩, ?_⟩
     ·simpa using (k3 c hc).2
     ·rw [← hd]
      simp only [bulkD]
      omega
    ·simp at h
   case array m e =>
    simp only [Bool.and_eq_true, List.all_eq_true, List.contains_iff_mem] at hty
    obtain ⟨h1, h2⟩ := hty
    simp only at h
    split at h
    ·rename_i hlen
     obtain ⟨xs, h3, h3'⟩ := Option.map_eq_some_iff.1 h
     simp only [Prod.mk.injEq] at h3'
     obtain ⟨hd, _⟩ := h3'
     obtain ⟨h4, h5⟩ := mapM_some h3
     rw [← hlen] at h1
     obtain ⟨es, ⟨k1, k2⟩, k3, k4⟩ := chunks_build (P := P) (w := w) (n := n) (cs := cs) (chunks P t) 0 h1 (xs.map (·.1)) (by simp [chunks, hu, h4]) (fun i c y hc hy => by
      have hc0 := List.mem_of_getElem? hc
      simp only [chunks, hu, List.getElem?_map, Option.map_eq_some_iff] at hc hy
      obtain ⟨f, hf, rfl⟩ := hc
      obtain ⟨z, hz, rfl⟩ := hy
      obtain ⟨y', h6, h6'⟩ := h5 i f hf
      rw [h6'] at hz
      injection hz with hz
      subst hz
      obtain ⟨hfl, rfl⟩ := List.getElem?_eq_some_iff.1 hf
      simp only [List.getElem_range] at h6 hc0 ⊢
      exact trod_rep hT n (h2 _ hc0) (show DataW.trod enc P w 0 spare held n e _ = some (y'.1, y'.2) from h6)) (Nat.zero_le _)
     refine ⟨es, ⟨by simpa using k1, by simpa using k2⟩, ⟨by rw [k1]; simpa using hlen, fun c hc => ?_⟩, ?_⟩
     ·simpa using (k3 c hc).2
     ·rw [← hd]
      simp only [bulkD]
      omega
    ·simp at h
def av1 : List C → AV
 | [c] => ofC true c
 | _ => .undef
def avOf (P : Program) (t : TypeId) (es : List C) : AV := match P.underlying t with
 | some (.struct _) => .agg (es.map (ofC true))
 | some (.array _ _) => .agg (es.map (ofC true))
 | _ => av1 es
def cx0 (B : BigRel) (w : World) : Cx := ⟨w, allOld w, fun _ => 0, fun _ => 0, w.heap.size, fun _ _ => False, B⟩
variable {B : BigRel}
theorem rep_old {w : World} {c : C} {v : Value} (h : Rep w (allOld w) c v) : Rep (cx0 B w).w ((cx0 B w).sh true) c v := h.mono fun b o hS => ⟨⟨hS, .inl rfl⟩, rfl⟩
theorem arg_rel {P : Program} {w : World} {r : Reach} {base : Nat} {T : List TypeId} (hT : tyOk P T = true) {t : TypeId} {v : Value} {es : List C} (ht : t ∈ T) (hok : Value.okWide P w r base t v) (hr : RepL w es v.cells.toList) : RelV (cx0 B w) [] (avOf P t es) v := by
 have hty := List.all_eq_true.1 hT t ht
 unfold Value.okWide at hok
 unfold avOf
 have scal : (∀ cs, v ≠ .agg cs) → RelV (cx0 B w) [] (av1 es) v := fun hn => by
  have hv : v.cells.toList = [v] := by
   cases v <;> first
    | rfl
    | exact absurd rfl (hn _)
  rw [hv] at hr
  obtain ⟨h1, h2⟩ := hr
  match es, h1 with
  | [c], _ => exact (rep_old (h2 0 c v rfl rfl)).ofC
 have agg : ∀ cs, v = .agg cs → RelV (cx0 B w) [] (.agg (es.map (ofC true))) v := fun cs hv => by
  subst hv
  obtain ⟨h1, h2⟩ := hr
  have : (Value.agg cs) = .agg cs.toList.toArray := by simp
  rw [this]
  refine .agg _ _ (by simpa [Value.cells] using h1) fun i b u h3 h4 => ?_
  rw [List.getElem?_map, Option.map_eq_some_iff] at h3
  obtain ⟨c, h5, rfl⟩ := h3
  exact (rep_old (h2 i c u h5 h4)).ofC
 cases hu : P.underlying t with
 | none => rw [hu] at hty; simp at hty
 | some desc =>
  rw [hu] at hty hok
  have nok : ∀ cs, v = .agg cs → (∀ fs, desc ≠ .struct fs) → (∀ n e, desc ≠ .array n e) → Cell.okWide P w r base t v → False := fun cs hc h1 h2 h3 => by
   subst hc
   unfold Cell.okWide Cell.ok at h3
   rw [hu] at h3
   cases desc <;> simp at h3 h1 h2
  cases desc <;> first
   | (simp at hty; done)
   | (obtain ⟨cs, hc, _⟩ := hok; exact agg cs hc)
   | exact scal fun cs hc => nok cs hc (fun _ h => by cases h) (fun _ _ h => by cases h) hok
theorem avOf_refs (P : Program) (t : TypeId) (es : List C) : (avOf P t es).refs = [] := by
 unfold avOf
 split
 ·simp only [AV.refs]; exact refsL_nil fun a ha => by obtain ⟨c, _, rfl⟩ := List.mem_map.1 ha; exact refs_ofC _ _
 ·simp only [AV.refs]; exact refsL_nil fun a ha => by obtain ⟨c, _, rfl⟩ := List.mem_map.1 ha; exact refs_ofC _ _
 ·unfold av1
  split
  ·exact refs_ofC _ _
  ·rfl
def argsOf (P : Program) : List TypeId → List (List C) → List AV
 | t :: ts, es :: ess => avOf P t es :: argsOf P ts ess
 | _, _ => []
theorem args_in {H : Type} {enc : TypeId × Value → H} {P : Program} {w : World} {spare : Nat → Bool} {held : Bool} {r : Reach} {base : Nat} {T : List TypeId} (hT : tyOk P T = true) : ∀ {ts : List TypeId} {vs : List Value} {ds : List (DataW H)} {ps : List MemPlace}, (∀ t ∈ ts, t ∈ T) →
  DataW.TrodAll enc P w 0 spare held ts vs ds ps → (∀ (j : Nat) (t : TypeId) (v : Value), ts[j]? = some t → vs[j]? = some v → Value.okWide P w r base t v) →
  ∃ ess : List (List C), ess.length = ts.length ∧ cBLL ess ≤ bulkDs ds ∧ (∀ (j : Nat) (t : TypeId) (es : List C), ts[j]? = some t → ess[j]? = some es → ∃ n, TypC P n t es) ∧
   (argsOf P ts ess).length = vs.length ∧ (∀ (j : Nat) (b : AV) (v : Value), (argsOf P ts ess)[j]? = some b → vs[j]? = some v → RelV (cx0 B w) [] b v) ∧ refsL (argsOf P ts ess) = []
 | [], [], [], ps, _, _, _ => ⟨[], rfl, by simp [cBLL], fun j t es h => by simp at h, rfl, fun j b v h => by simp [argsOf] at h, rfl⟩
 | [], [], _ :: _, _, _, h, _ => by simp [DataW.TrodAll] at h
 | [], _ :: _, _, _, _, h, _ => by simp [DataW.TrodAll] at h
 | _ :: _, [], _, _, _, h, _ => by simp [DataW.TrodAll] at h
 | _ :: _, _ :: _, [], _, _, h, _ => by simp [DataW.TrodAll] at h
 | t :: ts, v :: vs, d :: ds, ps, ht, h, hok => by
  obtain ⟨p, q, ⟨n, h1⟩, h2, _⟩ := h
  obtain ⟨es, k1, k2, k3⟩ := trod_rep hT n (ht t (by simp)) h1
  obtain ⟨ess, a1, a2, a3, a4, a5, a6⟩ := args_in hT (fun t' ht' => ht t' (by simp [ht'])) h2 fun j t' v' h3 h4 => hok (j + 1) t' v' (by simpa using h3) (by simpa using h4)
  refine ⟨es :: ess, by simp [a1], by simp only [cBLL, bulkDs]; omega, fun j t' es' h3 h4 => ?_, by simp [argsOf, a4], fun j b u h3 h4 => ?_, by simp [argsOf, refsL, avOf_refs, a6]⟩
  ·cases j with
   | zero =>
    simp at h3 h4
    subst h3 h4
    exact ⟨n, k2⟩
   | succ j => exact a3 j t' es' (by simpa using h3) (by simpa using h4)
  ·cases j with
   | zero =>
    simp [argsOf] at h3 h4
    subst h3 h4
    exact arg_rel hT (ht t (by simp)) (hok 0 t v rfl rfl) k1
   | succ j => exact a5 j b u (by simpa [argsOf] using h3) (by simpa using h4)
theorem inv0 {G : Cf} (hG : ∀ g, G.G g = []) (w : World) : Inv G (cx0 G.B w) [] where
 bgo := rfl
 big := fun id d h => by simp [getO] at h
 obj := fun id o h => by simp [getO] at h
 inj := fun i j oi oj h => by simp [getO] at h
 own := fun id o h => by simp [getO] at h
 sh := fun b o h => h
 live := fun id o h => by simp [getO] at h
 glob := fun g j c h => by rw [hG] at h; simp at h
theorem law_calls {P : Program} {G : Cf} {tab : Nat → Option Fn} (ht : TabOk P tab) (hX : XOk P G) (hG : ∀ g, G.G g = []) {f : Nat} (hf : real f = f) {args : List AV} {outs : List Obj} {w : World} {vals : List Value} (he : Ev tab G f args [] = some ([.s (.bool true)], outs))
  (hl : args.length = vals.length) (hr : ∀ (j : Nat) (b : AV) (v : Value), args[j]? = some b → vals[j]? = some v → RelV (cx0 G.B w) [] b v) (hn : refsL args = []) (hlt : f < 2000000 := by decide) :
  Calls P f vals.toArray w fun e w' => e = .returned (.bool true) ∧ Below w.heap.size w w' := by
 have hc := Ev_ok ht hX (fun _ => hG) he hlt (cx0 G.B w) vals rfl (inv0 hG w) hl hr fun id hid => by rw [hn] at hid; simp at hid
 rw [hf] at hc
 refine hc.mono fun e w' ⟨us, h1, x', h2, post⟩ => ?_
 have hlen := post.len
 match us, hlen with
 | [u], _ =>
  have := (post.rel 0 _ u rfl rfl).s_inv
  subst this
  refine ⟨h1, ?_⟩
  subst h2
  exact ⟨post.step.os, post.step.tape, post.step.output, post.step.size, fun k hk => post.step.frame k hk (fun id o h => by simp [getO] at h) fun id d h => by simp [getO] at h⟩
end Go.Ev
set_option linter.unusedSimpArgs false
set_option linter.unusedVariables false
namespace Go.Ev
open Go.RowKit Go.ChangeShapes Go.WideShapes Go.ChangeAt
theorem trodAll_stays {H : Type} {enc : TypeId × Value → H} {P : Program} (hl : laidOutB P = true) {W W' : World} (hb : Below W.heap.size W W') : ∀ {ts : List TypeId} {vs : List Value} {ds : List (DataW H)} {ps : List MemPlace},
  (ts.all fun t => P.readableRec t && decide (t < P.types.size)) = true → DataW.TrodAll enc P W 0 (fun _ => true) true ts vs ds ps → DataW.TrodAll enc P W' 0 (fun b => decide (b < W.heap.size)) true ts vs ds ps
 | [], [], [], ps, _, h => h
 | [], [], _ :: _, _, _, h => by simp [DataW.TrodAll] at h
 | [], _ :: _, _, _, _, h => by simp [DataW.TrodAll] at h
 | _ :: _, [], _, _, _, h => by simp [DataW.TrodAll] at h
 | _ :: _, _ :: _, [], _, _, h => by simp [DataW.TrodAll] at h
 | t :: ts, v :: vs, d :: ds, ps, ht, h => by
  obtain ⟨p, q, h1, h2, h3⟩ := h
  simp only [List.all_cons, Bool.and_eq_true, decide_eq_true_eq] at ht
  have lt : ∀ x ∈ p, x.block < W.heap.size := by obtain ⟨m, hm⟩ := h1; exact DataW.trod_lt m _ _ _ hm
  exact ⟨p, q, Below.trod hl ht.1.1 ht.1.2 h1 hb lt, trodAll_stays hl hb ht.2 h2, h3⟩
theorem typ_int {P : Program} {n : Nat} {t : TypeId} {es : List C} {k : IntKind} (hu : P.underlying t = some (.int k)) (h : TypC P n t es) : ∃ i, es = [.sc (.int k i)] ∧ (Lit.int k i).wf = true := by
 cases n with
 | zero => exact h.elim
 | succ n => simp only [TypC, hu] at h; exact h
theorem typ_bool {P : Program} {n : Nat} {t : TypeId} {es : List C} (hu : P.underlying t = some .bool) (h : TypC P n t es) : ∃ b, es = [.sc (.bool b)] := by
 cases n with
 | zero => exact h.elim
 | succ n => simp only [TypC, hu] at h; exact h
end Go.Ev
set_option linter.unusedSimpArgs false
set_option linter.unusedVariables false
namespace Go.Ev
inductive Fr where
 | ops (l : List Opr)
 | seq (b : IR)
 | block (id : Nat) (k : List Bool)
 | opsP (ps : List (Nat × Nat)) (fts : List (List Nat × List Nat)) (l : List Opr)
 | opsQ (p : Pin) (ps : List (Nat × Nat)) (fts : List (List Nat × List Nat)) (ok : Bool) (k : Option Nat) (l : List Opr)
def okF (ps : List (Nat × Nat)) (l : List (List Nat × List Nat)) : Bool := ps.all fun p => disj (l.getD p.1 ([], [])) (l.getD p.2 ([], []))
def okFQ (ix : Nat) (ps : List (Nat × Nat)) (l : List (List Nat × List Nat)) : Bool := ps.all fun p => p.2 == ix || disj (l.getD p.1 ([], [])) (l.getD p.2 ([], []))
def ldO (G : Cf) (p : Pin) : Option Nat → List Opr → List St → Bool
 | none, _, _ => true
 | some k, l, ss => pinLdL G p k l ss
section
variable {tab : Nat → Option Fn} {G : Cf}
noncomputable def loopStep (tab : Nat → Option Fn) (G : Cf) (ns : Nat) (k : List Bool) (b : IR) (st : St) : Option (Ex × St) := loopEnd ns k (evIR G LoopL (Ev tab G) ns b st)
noncomputable def lp (tab : Nat → Option Fn) (G : Cf) (ns : Nat) (k : List Bool) (b : IR) (st : St) : Option (Ex × St) := LoopL (loopStep tab G ns k b) st
noncomputable def ex (tab : Nat → Option Fn) (G : Cf) (ns : Nat) (b : IR) (st : St) : Option (Ex × St) := evIR G LoopL (Ev tab G) ns b st
noncomputable def app (tab : Nat → Option Fn) (G : Cf) (ns : Nat) : List Fr → Option (Ex × St) → Option (Ex × St)
 | [], r => r
 | .seq b :: K, r => app tab G ns K (match r with
  | some (.normal, st) => ex tab G ns b st
  | r => r)
 | .block id k :: K, r => app tab G ns K (match r with
  | some (.exit i, st') => if i = id then some (.normal, st') else some (.exit i, st')
  | some (.normal, st') => some (.normal, clean ns k st')
  | r => r)
 | .ops l :: K, r => app tab G ns K (match r with
  | some (.normal, st) => (match evOps G (Ev tab G) l st with
   | some st' => some (.normal, st')
   | none => none)
  | r => r)
 | .opsP ps fts l :: K, r => app tab G ns K (match r with
  | some (.normal, st) => if okF ps (fts ++ feet G (Ev tab G) l st) = true then (match evOps G (Ev tab G) l st with
   | some st' => some (.normal, st')
   | none => none) else none
  | r => r)
 | .opsQ p ps fts ok k l :: K, r => app tab G ns K (match r with
  | some (.normal, st) => if (ok && (((sts G (Ev tab G) l st).all fun s => pinAt p s.h) && (ldO G p k l (sts G (Ev tab G) l st) && okFQ p.ix ps (fts ++ feet G (Ev tab G) l st)))) = true then (match evOps G (Ev tab G) l st with
   | some st' => some (.normal, st')
   | none => none) else none
  | r => r)
variable {ns : Nat} {K : List Fr} {st : St}
theorem app_done {r : Ex × St} : app tab G ns [] (some r) = some r := rfl
theorem app_none : app tab G ns K none = none := by
 induction K with
 | nil => rfl
 | cons f K ih => cases f <;> exact ih
theorem app_seq {a b : IR} : app tab G ns K (ex tab G ns (.seq a b) st) = app tab G ns (.seq b :: K) (ex tab G ns a st) := rfl
theorem app_skip : app tab G ns K (ex tab G ns .skip st) = app tab G ns K (some (.normal, st)) := rfl
theorem app_reg0 {ops : List Opr} : app tab G ns K (ex tab G ns (.reg [] ops) st) = app tab G ns (.ops ops :: K) (some (.normal, st)) := rfl
theorem app_reg {a b : Nat} {ps : List (Nat × Nat)} {ops : List Opr} (h : a < 1000000) : app tab G ns K (ex tab G ns (.reg ((a, b) :: ps) ops) st) = app tab G ns (.opsP ((a, b) :: ps) [] ops :: K) (some (.normal, st)) := by
 have hp : pinOf ((a, b) :: ps) = none := by
  unfold pinOf
  split
  ·rename_i m a2 v ps' he
   rw [List.cons.injEq] at he
   obtain ⟨rfl, _⟩ := he
   rw [if_neg (fun c => by have := c.1; simp only at this; omega)]
  ·rfl
 simp only [app, ex, evIR, okPairs, okPr, hp, okF, List.nil_append]
 rfl
theorem app_regQ {ix a o v vb : Nat} {ps : List (Nat × Nat)} {ops : List Opr} (h1 : ix ≤ 1000000) (h2 : 1000000 ≤ a) (h3 : o ≤ a) (h4 : 1000000 ≤ v) (h5 : vb ≤ v) : app tab G ns K (ex tab G ns (.reg ((1000000, ix) :: (a, o) :: (v, vb) :: ps) ops) st) = app tab G ns (.opsQ ⟨ix, a - 1000000, o, v - 1000000, vb⟩ ps [] true (some ix) ops :: K) (some (.normal, st)) := by
 have hp : pinOf ((1000000, ix) :: (a, o) :: (v, vb) :: ps) = some (⟨ix, a - 1000000, o, v - 1000000, vb⟩, ps) := by
  exact if_pos ⟨rfl, h1, h2, h3, h4, h5⟩
 simp only [app, ex, evIR, okPairs, okPr, hp, okFQ, ldO, List.nil_append, Bool.true_and]
 rfl
def AV.isB : AV → Bool
 | .s (.bool _) => true
 | _ => false
def AV.b : AV → Bool
 | .s (.bool b) => b
 | _ => false
theorem isB_bool {b : Bool} : AV.isB (.s (.bool b)) = true := rfl
theorem b_bool {b : Bool} : AV.b (.s (.bool b)) = b := rfl
theorem app_cond {c : O} {a b : IR} : app tab G ns K (ex tab G ns (.cond c a b) st) = if (rho G st.t c).isB = true then (if (rho G st.t c).b = true then app tab G ns K (ex tab G ns a st) else app tab G ns K (ex tab G ns b st)) else none := by
 simp only [ex, evIR]
 split
 ·rename_i h; simp only [h, isB_bool, b_bool, if_true]
 ·rename_i h; simp only [h, isB_bool, b_bool, if_true]; rfl
 ·rename_i h1 h2
  rw [if_neg, app_none]
  intro h
  cases hr : rho G st.t c <;> simp [hr, AV.isB] at h
  rename_i v
  cases v <;> simp at h
  rename_i bb
  cases bb
  ·exact h2 hr
  ·exact h1 hr
theorem set_same {t : List AV} {i : Nat} {b : Bool} (h : (t.getD i .undef).isB = true) (hb : (t.getD i .undef).b = b) : t.set i (.s (.bool b)) = t := by
 have hi : i < t.length := by
  rcases Nat.lt_or_ge i t.length with hlt | hge
  ·exact hlt
  ·simp [List.getD, List.getElem?_eq_none hge, AV.isB] at h
 have hv : t.getD i .undef = .s (.bool b) := by
  revert h hb
  generalize t.getD i .undef = v
  intro h hb
  cases v <;> simp [AV.isB] at h
  rename_i u
  cases u <;> simp at h
  simp only [AV.b] at hb
  rw [hb]
 refine List.ext_getElem? fun j => ?_
 rw [List.getElem?_set]
 split
 ·rename_i hij
  subst hij
  simp only [List.getD, List.getElem?_eq_getElem hi, Option.getD_some] at hv
  simp [hi, hv]
 ·rfl
theorem app_block {id : Nat} {k : List Bool} {b : IR} : app tab G ns K (ex tab G ns (.block id k b) st) = app tab G ns (.block id k :: K) (ex tab G ns b st) := rfl
theorem app_loop {k : List Bool} {b : IR} : app tab G ns K (ex tab G ns (.loop k b) st) = app tab G ns K (lp tab G ns k b (clean ns k st)) := rfl
theorem app_exit {i : Nat} {k : List Bool} : app tab G ns K (ex tab G ns (.exit i k) st) = app tab G ns K (some (.exit i, clean ns k st)) := rfl
theorem app_ret {k : List Bool} : app tab G ns K (ex tab G ns (.ret k) st) = app tab G ns K (some (.ret, clean ns k st)) := rfl
theorem app_seq_n {b : IR} : app tab G ns (.seq b :: K) (some (.normal, st)) = app tab G ns K (ex tab G ns b st) := rfl
theorem app_seq_e {b : IR} {i : Nat} : app tab G ns (.seq b :: K) (some (.exit i, st)) = app tab G ns K (some (.exit i, st)) := rfl
theorem app_seq_r {b : IR} : app tab G ns (.seq b :: K) (some (.ret, st)) = app tab G ns K (some (.ret, st)) := rfl
theorem app_block_n {id : Nat} {k : List Bool} : app tab G ns (.block id k :: K) (some (.normal, st)) = app tab G ns K (some (.normal, clean ns k st)) := rfl
theorem app_block_e {id : Nat} {k : List Bool} {i : Nat} : app tab G ns (.block id k :: K) (some (.exit i, st)) = if i = id then app tab G ns K (some (.normal, st)) else app tab G ns K (some (.exit i, st)) := by
 simp only [app]
 split <;> rfl
theorem app_block_r {id : Nat} {k : List Bool} : app tab G ns (.block id k :: K) (some (.ret, st)) = app tab G ns K (some (.ret, st)) := rfl
def opR (d : Option Nat) (t : List AV) : Option (AV × Heap) → Option (Ex × St)
 | some (v, h) => some (.normal, ⟨setD t d v, h⟩)
 | none => none
theorem opR_some {d : Option Nat} {t : List AV} {v : AV} {h : Heap} : opR d t (some (v, h)) = some (.normal, ⟨setD t d v, h⟩) := rfl
theorem opR_none {d : Option Nat} {t : List AV} : opR d t none = none := rfl
theorem app_ops_nil : app tab G ns (.ops [] :: K) (some (.normal, st)) = app tab G ns K (some (.normal, st)) := rfl
theorem app_op {d : Option Nat} {o : Op1} {r : List Opr} : app tab G ns (.ops (⟨d, o, none, []⟩ :: r) :: K) (some (.normal, st)) = app tab G ns (.ops r :: K) (opR d st.t (ev1 G (Ev tab G) st o)) := by
 simp only [app, evOps, evOp, guardOf, frzTs]
 cases ev1 G (Ev tab G) st o with
 | none => rfl
 | some p => rfl
noncomputable def opF (tab : Nat → Option Fn) (G : Cf) (d : Option Nat) (o : Op1) : Option St → Option (Ex × St)
 | some st => opR d st.t (ev1 G (Ev tab G) st o)
 | none => none
theorem opF_some {d : Option Nat} {o : Op1} {st : St} : opF tab G d o (some st) = opR d st.t (ev1 G (Ev tab G) st o) := rfl
theorem app_opF {d : Option Nat} {o : Op1} {i : Nat} {fz : List Nat} {r : List Opr} : app tab G ns (.ops (⟨d, o, none, i :: fz⟩ :: r) :: K) (some (.normal, st)) = app tab G ns (.ops r :: K) (opF tab G d o (frzTs (i :: fz) st)) := by
 simp only [app, evOps, evOp, guardOf]
 cases frzTs (i :: fz) st with
 | none => rfl
 | some s1 =>
  simp only [opF]
  cases ev1 G (Ev tab G) s1 o with
  | none => rfl
  | some p => rfl
def AV.isU : AV → Bool
 | .s (.tuple _) => true
 | _ => false
theorem isU_undef : AV.isU (.s undef) = true := rfl
theorem isU_bool {b : Bool} : AV.isU (.s (.bool b)) = false := rfl
theorem isB_undef : AV.isB (.s undef) = false := rfl
theorem guard_b {t : List AV} {i : Nat} {b : Bool} (h : (t.getD i .undef).isB = true) : guardOf t (some (i, b)) = some ((t.getD i .undef).b == b) := by
 simp only [guardOf]
 revert h
 generalize t.getD i .undef = v
 intro h
 cases v <;> simp [AV.isB] at h
 rename_i u
 cases u <;> simp at h
 rfl
theorem guard_u {t : List AV} {i : Nat} {b : Bool} (h : (t.getD i .undef).isU = true) : guardOf t (some (i, b)) = some false := by
 simp only [guardOf]
 revert h
 generalize t.getD i .undef = v
 intro h
 cases v <;> simp [AV.isU] at h
 rename_i u
 cases u <;> simp at h
 rfl
theorem guard_n {t : List AV} {i : Nat} {b : Bool} (h1 : ¬ (t.getD i .undef).isB = true) (h2 : ¬ (t.getD i .undef).isU = true) : guardOf t (some (i, b)) = none := by
 simp only [guardOf]
 revert h1 h2
 generalize t.getD i .undef = v
 intro h1 h2
 cases v <;> try rfl
 rename_i u
 cases u <;> first | rfl | simp [AV.isB, AV.isU] at h1 h2
theorem app_opG {d : Option Nat} {o : Op1} {i : Nat} {b : Bool} {fz : List Nat} {r : List Opr} : app tab G ns (.ops (⟨d, o, some (i, b), fz⟩ :: r) :: K) (some (.normal, st)) =
  if (st.t.getD i .undef).isB = true then (if ((st.t.getD i .undef).b == b) = true then app tab G ns (.ops r :: K) (opF tab G d o (frzTs fz ⟨st.t.set i (.s (.bool b)), st.h⟩)) else app tab G ns (.ops r :: K) (some (.normal, ⟨setD (st.t.set i (.s (.bool (!b)))) d (.s undef), st.h⟩)))
  else if (st.t.getD i .undef).isU = true then app tab G ns (.ops r :: K) (some (.normal, ⟨setD st.t d (.s undef), st.h⟩)) else none := by
 simp only [app, evOps, evOp]
 by_cases h1 : (st.t.getD i .undef).isB = true
 ·rw [if_pos h1, guard_b h1]
  by_cases hc : ((st.t.getD i .undef).b == b) = true
  ·rw [if_pos hc, set_same h1 (by simpa using hc)]
   simp only [hc]
   cases frzTs fz st with
   | none => rfl
   | some s1 =>
    simp only [opF]
    cases ev1 G (Ev tab G) s1 o with
    | none => rfl
    | some p => rfl
  ·rw [if_neg hc]
   have hc' : ((st.t.getD i .undef).b == b) = false := by simpa using hc
   rw [set_same h1 (by cases hb : (st.t.getD i .undef).b <;> cases b <;> simp_all)]
   simp only [hc']
 ·rw [if_neg h1]
  by_cases h2 : (st.t.getD i .undef).isU = true
  ·rw [if_pos h2, guard_u h2]
  ·rw [if_neg h2, guard_n h1 h2]
   exact app_none
theorem app_P_nil {ps : List (Nat × Nat)} {fts : List (List Nat × List Nat)} : app tab G ns (.opsP ps fts [] :: K) (some (.normal, st)) = if okF ps fts = true then app tab G ns K (some (.normal, st)) else none := by
 simp only [app, feet, List.append_nil, evOps]
 split
 ·rfl
 ·exact app_none
def toN : Option St → Option (Ex × St)
 | some s => some (.normal, s)
 | none => none
theorem app_P_cons {ps : List (Nat × Nat)} {fts : List (List Nat × List Nat)} {o : Opr} {r : List Opr} : app tab G ns (.opsP ps fts (o :: r) :: K) (some (.normal, st)) = app tab G ns (.opsP ps (fts ++ [foot G o st]) r :: K) (toN (evOp G (Ev tab G) o st)) := by
 cases h : evOp G (Ev tab G) o st with
 | none =>
  simp only [app, feet, evOps, h, toN]
  simp
 | some s1 => simp only [app, feet, evOps, h, toN, List.append_assoc, List.cons_append, List.nil_append]
theorem app_Pop {ps : List (Nat × Nat)} {fts : List (List Nat × List Nat)} {d : Option Nat} {o : Op1} {r : List Opr} : app tab G ns (.opsP ps fts (⟨d, o, none, []⟩ :: r) :: K) (some (.normal, st)) = app tab G ns (.opsP ps (fts ++ [(fp G st.t st.h o, if o.cls = .r then [] else fp G st.t st.h o)]) r :: K) (opR d st.t (ev1 G (Ev tab G) st o)) := by
 rw [app_P_cons]
 simp only [foot, guardOf, frzTs, evOp, List.flatMap_nil, List.nil_append, and_true]
 cases ev1 G (Ev tab G) st o with
 | none => rfl
 | some p => rfl
def footF (G : Cf) (t : List AV) (fz : List Nat) (o : Op1) : Option St → List Nat × List Nat
 | some st' => ((fz.flatMap fun i => (t.getD i .undef).refs) ++ fp G st'.t st'.h o, if o.cls = .r ∧ fz = [] then [] else (fz.flatMap fun i => (t.getD i .undef).refs) ++ fp G st'.t st'.h o)
 | none => ([], [])
theorem app_PopF {ps : List (Nat × Nat)} {fts : List (List Nat × List Nat)} {d : Option Nat} {o : Op1} {i : Nat} {fz : List Nat} {r : List Opr} : app tab G ns (.opsP ps fts (⟨d, o, none, i :: fz⟩ :: r) :: K) (some (.normal, st)) = app tab G ns (.opsP ps (fts ++ [footF G st.t (i :: fz) o (frzTs (i :: fz) st)]) r :: K) (opF tab G d o (frzTs (i :: fz) st)) := by
 rw [app_P_cons]
 simp only [foot, guardOf, evOp, footF]
 cases frzTs (i :: fz) st with
 | none => rfl
 | some s1 =>
  simp only [opF]
  cases ev1 G (Ev tab G) s1 o with
  | none => rfl
  | some p => rfl
theorem app_PopG {ps : List (Nat × Nat)} {fts : List (List Nat × List Nat)} {d : Option Nat} {o : Op1} {i : Nat} {b : Bool} {fz : List Nat} {r : List Opr} : app tab G ns (.opsP ps fts (⟨d, o, some (i, b), fz⟩ :: r) :: K) (some (.normal, st)) =
  if (st.t.getD i .undef).isB = true then (if ((st.t.getD i .undef).b == b) = true then app tab G ns (.opsP ps (fts ++ [footF G st.t fz o (frzTs fz ⟨st.t.set i (.s (.bool b)), st.h⟩)]) r :: K) (opF tab G d o (frzTs fz ⟨st.t.set i (.s (.bool b)), st.h⟩)) else app tab G ns (.opsP ps (fts ++ [([], [])]) r :: K) (some (.normal, ⟨setD (st.t.set i (.s (.bool (!b)))) d (.s undef), st.h⟩)))
  else if (st.t.getD i .undef).isU = true then app tab G ns (.opsP ps (fts ++ [([], [])]) r :: K) (some (.normal, ⟨setD st.t d (.s undef), st.h⟩)) else none := by
 rw [app_P_cons]
 simp only [foot, evOp]
 by_cases h1 : (st.t.getD i .undef).isB = true
 ·rw [if_pos h1, guard_b h1]
  by_cases hc : ((st.t.getD i .undef).b == b) = true
  ·rw [if_pos hc, set_same h1 (by simpa using hc)]
   simp only [hc, footF]
   cases frzTs fz st with
   | none => rfl
   | some s1 =>
    simp only [opF]
    cases ev1 G (Ev tab G) s1 o with
    | none => rfl
    | some p => rfl
  ·rw [if_neg hc]
   have hc' : ((st.t.getD i .undef).b == b) = false := by simpa using hc
   rw [set_same h1 (by cases hb : (st.t.getD i .undef).b <;> cases b <;> simp_all)]
   simp only [hc', toN]
 ·rw [if_neg h1]
  by_cases h2 : (st.t.getD i .undef).isU = true
  ·rw [if_pos h2, guard_u h2]
   rfl
  ·rw [if_neg h2, guard_n h1 h2]
   exact app_none
theorem app_Q_nil {p : Pin} {ps : List (Nat × Nat)} {fts : List (List Nat × List Nat)} {ok : Bool} : app tab G ns (.opsQ p ps fts ok none [] :: K) (some (.normal, st)) = if (ok && (pinAt p st.h && okFQ p.ix ps fts)) = true then app tab G ns K (some (.normal, st)) else none := by
 simp only [app, feet, sts, ldO, List.append_nil, evOps, List.all_cons, List.all_nil, Bool.and_true, Bool.true_and]
 split
 ·rfl
 ·exact app_none
theorem app_Q0 {p : Pin} {ps : List (Nat × Nat)} {fts : List (List Nat × List Nat)} {ok : Bool} {o : Opr} {r : List Opr} : app tab G ns (.opsQ p ps fts ok (some 0) (o :: r) :: K) (some (.normal, st)) = app tab G ns (.opsQ p ps (fts ++ [foot G o st]) (ok && (pinAt p st.h && pinLd G p o st)) none r :: K) (toN (evOp G (Ev tab G) o st)) := by
 cases h : evOp G (Ev tab G) o st with
 | none =>
  simp only [app, feet, evOps, h, toN]
  simp
 | some s1 =>
  simp only [app, feet, sts, ldO, pinLdL, evOps, h, toN, List.append_assoc, List.cons_append, List.nil_append, List.all_cons, Bool.true_and]
  generalize pinAt p st.h = b1
  generalize (List.all (sts G (Ev tab G) r s1) fun s => pinAt p s.h) = b2
  generalize pinLd G p o st = b3
  generalize okFQ p.ix ps _ = b4
  have e : (ok && ((b1 && b2) && (b3 && b4))) = ((ok && (b1 && b3)) && (b2 && b4)) := by cases ok <;> cases b1 <;> cases b2 <;> cases b3 <;> rfl
  rw [e]
theorem app_QS {p : Pin} {ps : List (Nat × Nat)} {fts : List (List Nat × List Nat)} {ok : Bool} {k : Nat} {o : Opr} {r : List Opr} : app tab G ns (.opsQ p ps fts ok (some (k + 1)) (o :: r) :: K) (some (.normal, st)) = app tab G ns (.opsQ p ps (fts ++ [foot G o st]) (ok && pinAt p st.h) (some k) r :: K) (toN (evOp G (Ev tab G) o st)) := by
 cases h : evOp G (Ev tab G) o st with
 | none =>
  simp only [app, feet, evOps, h, toN]
  simp
 | some s1 =>
  simp only [app, feet, sts, ldO, pinLdL, evOps, h, toN, List.append_assoc, List.cons_append, List.nil_append, List.all_cons, Bool.and_assoc]
theorem app_QN {p : Pin} {ps : List (Nat × Nat)} {fts : List (List Nat × List Nat)} {ok : Bool} {o : Opr} {r : List Opr} : app tab G ns (.opsQ p ps fts ok none (o :: r) :: K) (some (.normal, st)) = app tab G ns (.opsQ p ps (fts ++ [foot G o st]) (ok && pinAt p st.h) none r :: K) (toN (evOp G (Ev tab G) o st)) := by
 cases h : evOp G (Ev tab G) o st with
 | none =>
  simp only [app, feet, evOps, h, toN]
  simp
 | some s1 =>
  simp only [app, feet, sts, ldO, evOps, h, toN, List.append_assoc, List.cons_append, List.nil_append, List.all_cons, Bool.and_assoc, Bool.true_and]
theorem op_toN {d : Option Nat} {o : Op1} : toN (evOp G (Ev tab G) ⟨d, o, none, []⟩ st) = opR d st.t (ev1 G (Ev tab G) st o) := by
 simp only [evOp, guardOf, frzTs]
 cases ev1 G (Ev tab G) st o with
 | none => rfl
 | some p => rfl
theorem op_foot {d : Option Nat} {o : Op1} : foot G ⟨d, o, none, []⟩ st = (fp G st.t st.h o, if o.cls = .r then [] else fp G st.t st.h o) := by
 simp only [foot, guardOf, frzTs, List.flatMap_nil, List.nil_append, and_true]
theorem app_Qop0 {p : Pin} {ps : List (Nat × Nat)} {fts : List (List Nat × List Nat)} {ok : Bool} {d : Option Nat} {o : Op1} {r : List Opr} : app tab G ns (.opsQ p ps fts ok (some 0) (⟨d, o, none, []⟩ :: r) :: K) (some (.normal, st)) = app tab G ns (.opsQ p ps (fts ++ [(fp G st.t st.h o, if o.cls = .r then [] else fp G st.t st.h o)]) (ok && (pinAt p st.h && pinLd G p ⟨d, o, none, []⟩ st)) none r :: K) (opR d st.t (ev1 G (Ev tab G) st o)) := by
 rw [app_Q0, op_toN, op_foot]
theorem app_QopS {p : Pin} {ps : List (Nat × Nat)} {fts : List (List Nat × List Nat)} {ok : Bool} {k : Nat} {d : Option Nat} {o : Op1} {r : List Opr} : app tab G ns (.opsQ p ps fts ok (some (k + 1)) (⟨d, o, none, []⟩ :: r) :: K) (some (.normal, st)) = app tab G ns (.opsQ p ps (fts ++ [(fp G st.t st.h o, if o.cls = .r then [] else fp G st.t st.h o)]) (ok && pinAt p st.h) (some k) r :: K) (opR d st.t (ev1 G (Ev tab G) st o)) := by
 rw [app_QS, op_toN, op_foot]
theorem app_QopN {p : Pin} {ps : List (Nat × Nat)} {fts : List (List Nat × List Nat)} {ok : Bool} {d : Option Nat} {o : Op1} {r : List Opr} : app tab G ns (.opsQ p ps fts ok none (⟨d, o, none, []⟩ :: r) :: K) (some (.normal, st)) = app tab G ns (.opsQ p ps (fts ++ [(fp G st.t st.h o, if o.cls = .r then [] else fp G st.t st.h o)]) (ok && pinAt p st.h) none r :: K) (opR d st.t (ev1 G (Ev tab G) st o)) := by
 rw [app_QN, op_toN, op_foot]
noncomputable def fin (fn : Fn) (k : Nat) : Option (Ex × St) → Option (List AV × List Obj)
 | some (.normal, st) => padR (k + cntT fn.keep) (finish fn k st)
 | some (.ret, st) => padR (k + cntT fn.keep) (finish fn k st)
 | _ => none
theorem fin_n {fn : Fn} {k : Nat} {st : St} : fin fn k (some (.normal, st)) = padR (k + cntT fn.keep) (finish fn k st) := rfl
theorem fin_r {fn : Fn} {k : Nat} {st : St} : fin fn k (some (.ret, st)) = padR (k + cntT fn.keep) (finish fn k st) := rfl
theorem fin_none {fn : Fn} {k : Nat} : fin fn k none = none := rfl
theorem fin_ite {fn : Fn} {k : Nat} {c : Prop} [Decidable c] {x y : Option (Ex × St)} : fin fn k (if c then x else y) = if c then fin fn k x else fin fn k y := by split <;> rfl
theorem Ev_run {f : Nat} {fn : Fn} {args : List AV} {ins : List Obj} {r : List AV × List Obj} (ht : tab f = some fn) (hq : fn.nilq = false) (hn : args.length = fn.na) (h : fin fn ins.length (app tab G fn.ns [] (ex tab G fn.ns fn.body (start fn (canonA fn.raw args) ins))) = some r) : Ev tab G f args ins = some r := by
 refine Ev_fn ht hq ?_
 unfold evFn1
 rw [if_pos (by rw [canonA_len]; exact hn)]
 have h' : fin fn ins.length (evIR G LoopL (Ev tab G) fn.ns fn.body (start fn (canonA fn.raw args) ins)) = some r := h
 revert h'
 cases evIR G LoopL (Ev tab G) fn.ns fn.body (start fn (canonA fn.raw args) ins) with
 | none => exact fun h => h
 | some p =>
  obtain ⟨e, s⟩ := p
  cases e <;> exact fun h => h
theorem Ev_nilq {f : Nat} {fn : Fn} {o : Bool} (ht : tab f = some fn) (hq : fn.nilq = true) (hr : fn.raw = []) (h1 : evFn1 G LoopL (Ev tab G) fn [.nilsl] [] = some ([.sl true []], [])) (h2 : evFn1 G LoopL (Ev tab G) fn [.esl] [] = some ([.sl true []], [])) : Ev tab G f [.sl o []] [] = some ([.sl true []], []) := by
 refine Ev_of ?_
 simp only [evFn, ht, evFnC, hq, hr, canonA, AV.canon, AV.canon1, if_true, h1, h2, both, eqAs, eqA, eqA1, eqE, Bool.and_self]
theorem Ev_notnil {f : Nat} {fn : Fn} {o : Bool} {x : List C} {l : List (List C)} {r : List AV × List Obj} (ht : tab f = some fn) (hq : fn.nilq = true) (hr : fn.raw = []) (h : evFn1 G LoopL (Ev tab G) fn [.sl o (x :: l)] [] = some r) : Ev tab G f [.sl o (x :: l)] [] = some r := by
 refine Ev_of ?_
 simp only [evFn, ht, evFnC, hq, hr, canonA, AV.canon, AV.canon1, if_true, h]
theorem evFn1_run {fn : Fn} {args : List AV} {ins : List Obj} {r : List AV × List Obj} (hn : args.length = fn.na) (h : fin fn ins.length (app tab G fn.ns [] (ex tab G fn.ns fn.body (start fn args ins))) = some r) : evFn1 G LoopL (Ev tab G) fn args ins = some r := by
 unfold evFn1
 rw [if_pos hn]
 have h' : fin fn ins.length (evIR G LoopL (Ev tab G) fn.ns fn.body (start fn args ins)) = some r := h
 revert h'
 cases evIR G LoopL (Ev tab G) fn.ns fn.body (start fn args ins) with
 | none => exact fun h => h
 | some p =>
  obtain ⟨e, s⟩ := p
  cases e <;> exact fun h => h
noncomputable def againL (L : St → Option (Ex × St)) (ns : Nat) (k : List Bool) : Option (Ex × St) → Option (Ex × St)
 | some (.normal, st) => L (clean ns k st)
 | r => r
theorem again_n {L : St → Option (Ex × St)} {k : List Bool} {st : St} : againL L ns k (some (.normal, st)) = L (clean ns k st) := rfl
theorem again_e {L : St → Option (Ex × St)} {k : List Bool} {i : Nat} {st : St} : againL L ns k (some (.exit i, st)) = some (.exit i, st) := rfl
theorem again_r {L : St → Option (Ex × St)} {k : List Bool} {st : St} : againL L ns k (some (.ret, st)) = some (.ret, st) := rfl
theorem again_none {L : St → Option (Ex × St)} {k : List Bool} : againL L ns k none = none := rfl
theorem again_ite {L : St → Option (Ex × St)} {k : List Bool} {c : Prop} [Decidable c] {x y : Option (Ex × St)} : againL L ns k (if c then x else y) = if c then againL L ns k x else againL L ns k y := by split <;> rfl
theorem lp_eq (tab : Nat → Option Fn) (G : Cf) (ns : Nat) (k : List Bool) (b : IR) (st : St) : lp tab G ns k b st = againL (lp tab G ns k b) ns k (app tab G ns [] (ex tab G ns b st)) := by
 unfold lp
 rw [LoopL_eq]
 have : loopStep tab G ns k b st = loopEnd ns k (ex tab G ns b st) := rfl
 rw [this]
 simp only [app]
 cases ex tab G ns b st with
 | none => rfl
 | some p =>
  obtain ⟨e, s⟩ := p
  cases e <;> rfl
end
def qK (outs : List Nat) (h : Heap) : Option (List AV × List Obj) → Option (AV × Heap)
 | some (rs, os) => if os.length = outs.length then (match alloc (outs.zip (os.map (Obj.ren fun i => outs.getD i 0))) h with
  | some h' => some (finishCall (renL (fun i => outs.getD i 0) rs), h')
  | none => none) else none
 | none => none
theorem op_qcall {tab : Nat → Option Fn} {G : Cf} {t : List AV} {h : Heap} {f : Nat} {args : List O} {outs : List Nat} : ev1 G (Ev tab G) ⟨t, h⟩ (.qcall f args outs) = if (refsL (args.map (rho G t))).isEmpty = true then qK outs h (Ev tab G f (cArgs tab f (ageL true (args.map (rho G t)))) []) else none := by
 rw [← Ev_canon]
 simp only [ev1, Op1.cls, evP]
 split
 ·rename_i v al heq
  split at heq
  ·rename_i hc
   rw [if_pos hc]
   split at heq
   ·rename_i rs os hE
    rw [hE]
    simp only [qK]
    split at heq
    ·rename_i hl
     simp only [Option.some.injEq, Prod.mk.injEq] at heq
     obtain ⟨rfl, rfl⟩ := heq
     rw [if_pos hl]
     cases alloc (outs.zip (os.map (Obj.ren fun i => outs.getD i 0))) h <;> rfl
    ·simp at heq
   ·simp at heq
  ·simp at heq
 ·rename_i heq
  split at heq
  ·rename_i hc
   rw [if_pos hc]
   split at heq
   ·rename_i rs os hE
    rw [hE]
    simp only [qK]
    split at heq
    ·simp at heq
    ·rename_i hl
     rw [if_neg hl]
   ·rename_i hE
    rw [hE]
    rfl
  ·rename_i hc
   rw [if_neg hc]
def bK (outs : List Nat) (h : Heap) : Option (List AV × List Obj) → Option (AV × Heap)
 | some (rs, os) => if os.length = outs.length ∧ isOldL rs = false ∧ os.all scRow = true then (match alloc (outs.zip (os.map (Obj.ren fun i => outs.getD i 0))) h with
  | some h' => some (finishCall (renL (fun i => outs.getD i 0) rs), h')
  | none => none) else none
 | none => none
noncomputable def bV (tab : Nat → Option Fn) (G : Cf) (f : Nat) (outs : List Nat) (h : Heap) : Option (List AV) → Option (AV × Heap)
 | some as => if (refsL as).isEmpty = true then bK outs h (Ev tab G f (cArgs tab f (ageL true as)) []) else none
 | none => none
theorem bV_some {tab : Nat → Option Fn} {G : Cf} {f : Nat} {outs : List Nat} {h : Heap} {as : List AV} : bV tab G f outs h (some as) = if (refsL as).isEmpty = true then bK outs h (Ev tab G f (cArgs tab f (ageL true as)) []) else none := rfl
theorem bK_none {outs : List Nat} {h : Heap} : bK outs h none = none := rfl
theorem bK_some {outs : List Nat} {h : Heap} {rs : List AV} {os : List Obj} : bK outs h (some (rs, os)) = if os.length = outs.length ∧ isOldL rs = false ∧ os.all scRow = true then (match alloc (outs.zip (os.map (Obj.ren fun i => outs.getD i 0))) h with
  | some h' => some (finishCall (renL (fun i => outs.getD i 0) rs), h')
  | none => none) else none := rfl
theorem vL_nil {h : Heap} : viewL h [] = some [] := rfl
def vCons : Option AV → Option (List AV) → Option (List AV)
 | some a, some r => some (a :: r)
 | _, _ => none
theorem vCons_some {a : AV} {r : List AV} : vCons (some a) (some r) = some (a :: r) := rfl
theorem v_s' {h : Heap} {v : Value} : view h (.s v) = some (.s v) := rfl
theorem v_sl' {h : Heap} {o : Bool} {l : List (List C)} : view h (.sl o l) = some (.sl o l) := rfl
theorem v_nilsl' {h : Heap} : view h .nilsl = some .nilsl := rfl
theorem v_esl' {h : Heap} : view h .esl = some .esl := rfl
theorem v_agg' {h : Heap} {l : List AV} : view h (.agg l) = some (.agg l) := rfl
theorem v_row' {h : Heap} {id n : Nat} : view h (.row id n) = match rowAt h id n with
  | some (_, _, o, _, l) => some (.sl o l)
  | none => none := rfl
theorem qK_none {outs : List Nat} {h : Heap} : qK outs h none = none := rfl
def cK (ids outs : List Nat) (h : Heap) : Option (List AV × List Obj) → Option (AV × Heap)
 | some (rs, os') => if os'.length = ids.length + (fitO h outs os'.length ids.length).length then (match alloc ((fitO h outs os'.length ids.length).zip ((os'.drop ids.length).map (Obj.ren fun i => (ids ++ fitO h outs os'.length ids.length).getD i 0))) (putAll ids ((os'.take ids.length).map (Obj.ren fun i => (ids ++ fitO h outs os'.length ids.length).getD i 0)) h) with
  | some h' => some (finishCall (renL (fun i => (ids ++ fitO h outs os'.length ids.length).getD i 0) rs), h')
  | none => none) else none
 | none => none
theorem cK_none {ids outs : List Nat} {h : Heap} : cK ids outs h none = none := rfl
noncomputable def evC (tab : Nat → Option Fn) (G : Cf) (h : Heap) (f : Nat) (args : List AV) (outs ids : List Nat) : Option (AV × Heap) :=
 if (closed h (refsL args) ids && decide ids.Nodup) = true then (match getAll h ids with
  | some os => cK ids outs h (Ev tab G f (cArgs tab f (ageL true (renL (fun i => ids.idxOf i) args))) (os.map fun o => (o.ren fun i => ids.idxOf i).age true))
  | none => none) else none
theorem evCall_C {tab : Nat → Option Fn} {G : Cf} {h : Heap} {f : Nat} {args : List AV} {outs : List Nat} : evCall (Ev tab G) h f args outs = evC tab G h f args outs (reach h (refsL args)) := by
 simp only [evCall, evC]
 split
 ·cases getAll h (reach h (refsL args)) with
  | none => rfl
  | some os =>
   simp only
   rw [← Ev_canon]
   cases Ev tab G f (ageL true (renL (fun i => (reach h (refsL args)).idxOf i) args)) (os.map fun o => (o.ren fun i => (reach h (refsL args)).idxOf i).age true) with
   | none => rfl
   | some p =>
    obtain ⟨rs, os'⟩ := p
    rfl
 ·rfl
end Go.Ev
set_option linter.unusedSimpArgs false
set_option linter.unusedVariables false
namespace Go.Ev
def Le (F F' : FnEv) : Prop := ∀ f args ins r, F f args ins = some r → F' f args ins = some r
section
variable {tab : Nat → Option Fn} {G : Cf} {F F' : FnEv}
theorem le_call (hF : Le F F') {h : Heap} {f : Nat} {args : List AV} {outs : List Nat} {r : AV × Heap} (he : evCall F h f args outs = some r) : evCall F' h f args outs = some r := by
 have he0 := he
 simp only [evCall] at he
 split at he
 ·split at he
  ·rename_i os hos
   split at he
   ·rename_i rs os' hq
    rw [← he0]
    simp only [evCall, hos, hq, hF _ _ _ _ hq]
   ·simp at he
  ·simp at he
 ·simp at he
theorem le_op (hF : Le F F') {st : St} {o : Op1} {r : AV × Heap} (he : ev1 G F st o = some r) : ev1 G F' st o = some r := by
 cases o <;> first
  | exact he
  | skip
 case qcall f args outs =>
  have he0 := he
  simp only [ev1, Op1.cls] at he
  split at he
  ·rename_i v al h1
   simp only [evP] at h1
   split at h1
   ·split at h1
    ·rename_i rs os hq
     rw [← he0]
     simp only [ev1, Op1.cls, evP, hq, hF _ _ _ _ hq]
    ·simp at h1
   ·simp at h1
  ·simp at he
 case call f args outs =>
  simp only [ev1, Op1.cls, evW] at he ⊢
  exact le_call hF he
 case callv g args outs =>
  simp only [ev1, Op1.cls, evW] at he ⊢
  split at he
  ·split at he
   ·rename_i hlt
    simp only [hlt, if_true]
    exact le_call hF he
   ·simp at he
  ·simp at he
 case bcall f args outs =>
  have he0 := he
  simp only [ev1, Op1.cls, evW] at he
  split at he
  ·rename_i as h1
   split at he
   ·split at he
    ·rename_i rs os hq
     rw [← he0]
     simp only [ev1, Op1.cls, evW, h1, hq, hF _ _ _ _ hq]
    ·simp at he
   ·simp at he
  ·simp at he
theorem le_opr (hF : Le F F') {st st' : St} {o : Opr} (he : evOp G F o st = some st') : evOp G F' o st = some st' := by
 have he0 := he
 simp only [evOp] at he
 split at he
 ·rename_i hg
  split at he
  ·rename_i s1 hf
   split at he
   ·rename_i v h h1
    rw [← he0]
    simp only [evOp, hg, hf, h1, le_op hF h1]
   ·simp at he
  ·simp at he
 ·rename_i hg
  rw [← he0]
  simp only [evOp, hg]
 ·simp at he
theorem le_ops (hF : Le F F') : ∀ {ops : List Opr} {st st' : St}, evOps G F ops st = some st' → evOps G F' ops st = some st' ∧ feet G F' ops st = feet G F ops st ∧ sts G F' ops st = sts G F ops st
 | [], st, st', he => ⟨he, rfl, rfl⟩
 | o :: ops, st, st', he => by
  simp only [evOps] at he
  split at he
  ·rename_i s1 h1
   have e1 := le_opr hF h1
   obtain ⟨e2, e3, e4⟩ := le_ops hF he
   exact ⟨by simp only [evOps, e1, e2], by simp only [feet, e1, h1, e3], by simp only [sts, e1, h1, e4]⟩
  ·simp at he
theorem le_loop {s s' : St → Option (Ex × St)} (hs : ∀ st r, s st = some r → s' st = some r) : ∀ {n m : Nat} {st : St} {r : Ex × St}, n ≤ m → loopN n s st = some r → loopN m s' st = some r
 | 0, m, st, r, _, he => by simp [loopN] at he
 | n + 1, m, st, r, hle, he => by
  obtain ⟨m, rfl⟩ : ∃ q, m = q + 1 := ⟨m - 1, by omega⟩
  simp only [loopN] at he ⊢
  split at he
  ·rename_i s1 h1
   rw [hs _ _ h1]
   exact le_loop hs (by omega) he
  ·rename_i hne
   rw [hs _ _ he]
   obtain ⟨ex, s1⟩ := r
   cases ex with
   | normal => exact absurd he (hne s1)
   | exit i => rfl
   | ret => rfl
theorem le_ir (hF : Le F F') {n m : Nat} (hle : n ≤ m) (ns : Nat) : ∀ (ir : IR) {st : St} {r : Ex × St}, evIR G (fun s st => loopN n s st) F ns ir st = some r → evIR G (fun s st => loopN m s st) F' ns ir st = some r := by
 intro ir
 induction ir with
 | skip => exact fun {st r} he => he
 | reg pairs ops =>
  intro st r he
  have he0 := he
  simp only [evIR] at he
  split at he
  ·rename_i hp
   split at he
   ·rename_i s1 h1
    obtain ⟨e1, e2, e3⟩ := le_ops hF h1
    have hp' : okPairs G F' pairs ops st = true := by simpa only [okPairs, e2, e3] using hp
    simp only [evIR, hp', e1, if_true]
    exact he
   ·simp at he
  ·simp at he
 | seq a b iha ihb =>
  intro st r he
  simp only [evIR] at he
  split at he
  ·rename_i s1 h1
   simp only [evIR, iha h1, ihb he]
  ·rename_i hne
   simp only [evIR, iha he]
   obtain ⟨ex, s1⟩ := r
   cases ex with
   | normal => exact absurd he (hne s1)
   | exit i => rfl
   | ret => rfl
 | cond c a b iha ihb =>
  intro st r he
  simp only [evIR] at he ⊢
  split at he
  ·exact iha he
  ·exact ihb he
  ·simp at he
 | block id k b ih =>
  intro st r he
  have he0 := he
  simp only [evIR] at he
  split at he
  ·rename_i i s1 h1
   simp only [evIR, ih h1]; exact he
  ·rename_i s1 h1
   simp only [evIR, ih h1]; exact he
  ·rename_i hn1 hn2
   simp only [evIR, ih he]
   obtain ⟨ex, s1⟩ := r
   cases ex with
   | normal => exact absurd he (hn2 s1)
   | exit i => exact absurd he (hn1 i s1)
   | ret => rfl
 | loop k b ih =>
  intro st r he
  simp only [evIR] at he ⊢
  refine le_loop (fun st r h => ?_) hle he
  unfold loopEnd at h ⊢
  split at h
  ·rename_i s1 h1
   rw [ih h1]
   exact h
  ·rename_i hne
   rw [ih h]
   obtain ⟨ex, s1⟩ := r
   cases ex with
   | normal => exact absurd h (hne s1)
   | exit i => rfl
   | ret => rfl
 | exit id k => exact fun {st r} he => he
 | ret k => exact fun {st r} he => he
theorem le_fn1 (hF : Le F F') {n m : Nat} (hle : n ≤ m) {fn : Fn} {args : List AV} {ins : List Obj} {r : List AV × List Obj} (he : evFn1 G (fun s st => loopN n s st) F fn args ins = some r) : evFn1 G (fun s st => loopN m s st) F' fn args ins = some r := by
 unfold evFn1 at he ⊢
 split at he
 ·rename_i hlen
  simp only [if_pos hlen]
  split at he
  ·rename_i st h1
   simp only [le_ir hF hle _ _ h1]; exact he
  ·rename_i st h1
   simp only [le_ir hF hle _ _ h1]; exact he
  ·simp at he
 ·simp at he
theorem le_fnC (hF : Le F F') {n m : Nat} (hle : n ≤ m) {fn : Fn} {args : List AV} {ins : List Obj} {r : List AV × List Obj} (he : evFnC G (fun s st => loopN n s st) F fn args ins = some r) : evFnC G (fun s st => loopN m s st) F' fn args ins = some r := by
 unfold evFnC at he
 split at he
 ·rename_i hq
  split at he
  ·obtain ⟨e1, e2⟩ := both_some he
   simp only [evFnC, hq, if_true, le_fn1 hF hle e1, le_fn1 hF hle e2]
   rw [e1, e2] at he
   exact he
  ·simp only [evFnC, hq, if_true]
   exact le_fn1 hF hle he
 ·rename_i hq
  simp only [evFnC, if_neg hq]
  exact le_fn1 hF hle he
theorem le_fn (hF : Le F F') {n m : Nat} (hle : n ≤ m) : Le (evFn tab G (fun s st => loopN n s st) F) (evFn tab G (fun s st => loopN m s st) F') := fun f args ins r he => by
 simp only [evFn] at he
 split at he
 ·rename_i fn hfn
  simp only [evFn, hfn]
  exact le_fnC hF hle he
 ·rename_i hfn
  simp only [evFn, hfn]
  exact he
theorem le_N : ∀ {n m : Nat}, n ≤ m → Le (evN tab G n) (evN tab G m)
 | 0, m, _ => fun f args ins r he => by simp [evN] at he
 | n + 1, m, hle => by
  obtain ⟨m, rfl⟩ : ∃ q, m = q + 1 := ⟨m - 1, by omega⟩
  exact le_fn (le_N (by omega)) (by omega)
theorem Ev_by (n : Nat) {f : Nat} {args : List AV} {ins : List Obj} {r : List AV × List Obj} (he : evN tab G n f args ins = some r) : Ev tab G f args ins = some r :=
 lim_of ⟨n, fun m hle => le_N hle f args ins r he⟩
end
end Go.Ev
set_option linter.unusedSimpArgs false
set_option linter.unusedVariables false
namespace Go.Ev
theorem ilt_t {a b : Int} (h : a < b) : (a < b) = True := by simp [h]
theorem ilt_f {a b : Int} (h : ¬ a < b) : (a < b) = False := by simp [h]
theorem ile_t {a b : Int} (h : a ≤ b) : (a ≤ b) = True := by simp [h]
theorem ile_f {a b : Int} (h : ¬ a ≤ b) : (a ≤ b) = False := by simp [h]
theorem ieq_t {a b : Int} (h : a = b) : (a = b) = True := by simp [h]
theorem ieq_f {a b : Int} (h : ¬ a = b) : (a = b) = False := by simp [h]
theorem nlt_t {a b : Nat} (h : a < b) : (a < b) = True := by simp [h]
theorem nlt_f {a b : Nat} (h : ¬ a < b) : (a < b) = False := by simp [h]
theorem nle_t {a b : Nat} (h : a ≤ b) : (a ≤ b) = True := by simp [h]
theorem neq_f {a b : Nat} (h : ¬ a = b) : (a = b) = False := by simp [h]
theorem bft : (false == true) = false := rfl
theorem btf : (true == false) = false := rfl
theorem bff : (false == false) = true := rfl
theorem btt : (true == true) = true := rfl
theorem beq_t {b : Bool} : (b == true) = b := by cases b <;> rfl
theorem beq_f {b : Bool} : (b == false) = !b := by cases b <;> rfl
theorem v_add {tk : TK} {k : IntKind} {a b : Int} : binV tk .add (.int k a) (.int k b) = some (.int k (k.wrap (a + b))) := by simp [binV, arithI]
theorem v_sub {tk : TK} {k : IntKind} {a b : Int} : binV tk .sub (.int k a) (.int k b) = some (.int k (k.wrap (a - b))) := by simp [binV, arithI]
theorem v_mul {tk : TK} {k : IntKind} {a b : Int} : binV tk .mul (.int k a) (.int k b) = some (.int k (k.wrap (a * b))) := by simp [binV, arithI]
theorem v_quo {tk : TK} {k : IntKind} {a b : Int} (h : ¬ b = 0) : binV tk .quo (.int k a) (.int k b) = some (.int k (k.wrap (a.tdiv b))) := by simp [binV, arithI, h]
theorem v_rem {tk : TK} {k : IntKind} {a b : Int} (h : ¬ b = 0) : binV tk .rem (.int k a) (.int k b) = some (.int k (a.tmod b)) := by simp [binV, arithI, h]
def orI (k : IntKind) (x y : Int) : Int := k.wrap (BitVec.ofInt k.bits x ||| BitVec.ofInt k.bits y).toNat
theorem v_or {tk : TK} {k : IntKind} {a b : Int} : binV tk .or (.int k a) (.int k b) = some (.int k (orI k a b)) := by simp [binV, arithI, bitsI, orI]
theorem v_shl {tk : TK} {k k' : IntKind} {a b : Int} (h : 0 ≤ b) : binV tk .shl (.int k a) (.int k' b) = some (.int k (k.wrap (a * 2 ^ (min b.toNat k.bits)))) := by
 simp only [binV, shiftI]; rw [if_neg (by omega)]; rfl
theorem v_shr {tk : TK} {k k' : IntKind} {a b : Int} (h : 0 ≤ b) : binV tk .shr (.int k a) (.int k' b) = some (.int k (a.fdiv (2 ^ (min b.toNat k.bits)))) := by
 simp only [binV, shiftI]; rw [if_neg (by omega)]; rfl
theorem v_eql {tk : TK} {k : IntKind} {a b : Int} : binV tk .eql (.int k a) (.int k b) = some (.bool (decide (a = b))) := by
 simp only [binV, if_true, cmpI, Option.map_some]
 by_cases h : a = b <;> simp [h]
theorem v_neq {tk : TK} {k : IntKind} {a b : Int} : binV tk .neq (.int k a) (.int k b) = some (.bool (!decide (a = b))) := by
 simp only [binV, if_true, cmpI, Option.map_some]
 by_cases h : a = b <;> simp [h]
theorem v_lss {tk : TK} {k : IntKind} {a b : Int} : binV tk .lss (.int k a) (.int k b) = some (.bool (decide (a < b))) := by simp [binV, cmpI]
theorem v_leq {tk : TK} {k : IntKind} {a b : Int} : binV tk .leq (.int k a) (.int k b) = some (.bool (decide (a ≤ b))) := by simp [binV, cmpI]
theorem v_gtr {tk : TK} {k : IntKind} {a b : Int} : binV tk .gtr (.int k a) (.int k b) = some (.bool (decide (b < a))) := by simp [binV, cmpI]
theorem v_geq {tk : TK} {k : IntKind} {a b : Int} : binV tk .geq (.int k a) (.int k b) = some (.bool (decide (b ≤ a))) := by simp [binV, cmpI]
theorem v_str {tk : TK} {op : BinOp} {a b : ByteArray} : binV tk op (.string a) (.string b) = strOp op a b := by cases op <;> rfl
theorem v_beql {a b : Bool} : binV .bool .eql (.bool a) (.bool b) = some (.bool (a == b)) := rfl
theorem v_bneq {a b : Bool} : binV .bool .neq (.bool a) (.bool b) = some (.bool (!(a == b))) := rfl
theorem v_ifc {e : Nat} {c : Bool} {op : BinOp} {t u : Nat} {x y : Value} : binV (.iface e c) op (.iface t x) (.iface u y) = ((eqIface e c (.iface t x) (.iface u y)).bind (negIf op)).map .bool := by cases op <;> rfl
theorem v_ifc_nr {e : Nat} {c : Bool} {op : BinOp} {t : Nat} {x : Value} : binV (.iface e c) op (.iface t x) .nilIface = ((some false).bind (negIf op)).map .bool := by cases op <;> rfl
theorem v_ifc_nl {e : Nat} {c : Bool} {op : BinOp} {t : Nat} {x : Value} : binV (.iface e c) op .nilIface (.iface t x) = ((some false).bind (negIf op)).map .bool := by cases op <;> rfl
theorem v_ifc_nn {e : Nat} {op : BinOp} : binV (.iface e true) op .nilIface .nilIface = ((some true).bind (negIf op)).map .bool := by cases op <;> rfl
theorem eqIface_int {e : Nat} {c : Bool} {k : IntKind} {a b : Int} : eqIface e c (.iface e (.int k a)) (.iface e (.int k b)) = some (decide (a = b)) := by
 simp only [eqIface, if_true, and_self]
 by_cases h : a = b <;> simp [h]
theorem n_eql {b : Bool} : negIf .eql b = some b := rfl
theorem n_neq {b : Bool} : negIf .neq b = some (!b) := rfl
theorem binA_s {tk : TK} {op : BinOp} {a b : Value} : binA tk op (.s a) (.s b) = binV tk op a b := rfl
theorem s_eql {a b : ByteArray} : strOp .eql a b = some (.bool (a.toList == b.toList)) := rfl
theorem s_neq {a b : ByteArray} : strOp .neq a b = some (.bool (!(a.toList == b.toList))) := rfl
theorem s_lss {a b : ByteArray} : strOp .lss a b = some (.bool (Op.bytesLess a.toList b.toList)) := rfl
theorem s_leq {a b : ByteArray} : strOp .leq a b = some (.bool (Op.bytesLess a.toList b.toList || a.toList == b.toList)) := rfl
theorem s_gtr {a b : ByteArray} : strOp .gtr a b = some (.bool !(Op.bytesLess a.toList b.toList || a.toList == b.toList)) := rfl
theorem s_geq {a b : ByteArray} : strOp .geq a b = some (.bool !(Op.bytesLess a.toList b.toList)) := rfl
theorem wrap_u {k : IntKind} (hs : k.signed = false) {n : Int} (h0 : 0 ≤ n) (h1 : n < 2 ^ k.bits) : k.wrap n = n := by
 simp only [IntKind.wrap, hs, Bool.false_and, Bool.false_eq_true, if_false]
 exact Int.emod_eq_of_lt h0 h1
theorem wrap_u64 {n : Int} (h : 0 ≤ n ∧ n < 18446744073709551616) : IntKind.wrap .u64 n = n := wrap_u rfl h.1 h.2
theorem wrap_u8 {n : Int} (h : 0 ≤ n ∧ n < 256) : IntKind.wrap .u8 n = n := wrap_u rfl h.1 h.2
theorem wrap_i64 {n : Int} (h : -9223372036854775808 ≤ n ∧ n < 9223372036854775808) : IntKind.wrap .i64 n = n := by
 simp [IntKind.wrap, IntKind.signed, IntKind.bits]; omega
theorem tdiv_nn {a b : Int} (h : 0 ≤ a) : a.tdiv b = a / b := Int.tdiv_eq_ediv_of_nonneg h
theorem tmod_nn {a b : Int} (h : 0 ≤ a) : a.tmod b = a % b := Int.tmod_eq_emod_of_nonneg h
def e1 (b : UInt8) : List C := [.sc (.int .u8 (b.toNat : Int))]
theorem eB_nil : eB [] = [] := rfl
theorem eB_cons {b : UInt8} {l : List UInt8} : eB (b :: l) = e1 b :: eB l := rfl
theorem eB_len {l : List UInt8} : (eB l).length = l.length := by simp [eB]
theorem eB_sz {l : List UInt8} : szOk 1 (eB l) = true := by simp [szOk, eB]
theorem bytesOf_eB {l : List UInt8} : bytesOf (eB l) = some l := by
 induction l with
 | nil => rfl
 | cons b l ih => simp only [eB, List.map_cons, bytesOf] at ih ⊢; rw [ih]; simp
theorem eB_take {l : List UInt8} {n : Nat} : (eB l).take n = eB (l.take n) := by simp [eB]
theorem eB_drop {l : List UInt8} {n : Nat} : (eB l).drop n = eB (l.drop n) := by simp [eB]
theorem eB_get {l : List UInt8} {i : Nat} (h : i < l.length) : (eB l)[i]? = some (e1 (l.getD i 0)) := by
 simp [eB, e1, List.getElem?_map, List.getD, h]
theorem toList_mk {l : List UInt8} : (ByteArray.mk l.toArray).toList = l := by
 have : ∀ (n : Nat) (i : Nat) (r : List UInt8), l.length - i = n → ByteArray.toList.loop ⟨l.toArray⟩ i r = r.reverse ++ l.drop i := by
  intro n
  induction n with
  | zero =>
   intro i r h
   unfold ByteArray.toList.loop
   rw [if_neg (by simp [ByteArray.size]; omega), List.drop_of_length_le (by omega)]
   simp
  | succ n ih =>
   intro i r h
   have hi : i < l.length := by omega
   unfold ByteArray.toList.loop
   rw [if_pos (by simpa [ByteArray.size] using hi), ih (i + 1) _ (by omega)]
   have hg : (ByteArray.mk l.toArray).get! i = l[i] := by
    show l.toArray[i]! = l[i]
    simp [hi]
   rw [hg, List.reverse_cons, List.append_assoc, List.drop_eq_getElem_cons hi]
   rfl
 have := this _ 0 [] rfl
 simpa [ByteArray.toList] using this
theorem data_mk {l : List UInt8} : (ByteArray.mk l.toArray).data.toList = l := rfl
def byt (n : Int) : UInt8 := UInt8.ofNat (n % 256).toNat
theorem toNat_byt {n : Int} : ((byt n).toNat : Int) = n % 256 := by
 have h : (n % 256).toNat % 256 = (n % 256).toNat := Nat.mod_eq_of_lt (by omega)
 simp [byt]
 omega
theorem sc_wrap {n : Int} : [C.sc (.int .u8 (IntKind.wrap .u8 n))] = e1 (byt n) := by
 have : IntKind.wrap .u8 n = n % 256 := by simp [IntKind.wrap, IntKind.signed, IntKind.bits]
 rw [this, e1, toNat_byt]
theorem sc_u8 {n : Int} (h : 0 ≤ n ∧ n < 256) : [C.sc (.int .u8 n)] = e1 (byt n) := by
 rw [e1, toNat_byt, Int.emod_eq_of_lt h.1 h.2]
theorem sc_toNat {b : UInt8} : [C.sc (.int .u8 (b.toNat : Int))] = e1 b := rfl
theorem eB_app {a b : List UInt8} : eB a ++ eB b = eB (a ++ b) := by simp [eB]
theorem eB_set {l : List UInt8} {i : Nat} {b : UInt8} : (eB l).set i (e1 b) = eB (l.set i b) := by simp [eB, e1, List.map_set]
theorem szOk_nil {sz : Nat} : szOk sz [] = true := rfl
theorem szOk_cons {sz : Nat} {e : List C} {l : List (List C)} : szOk sz (e :: l) = (decide (e.length = sz) && szOk sz l) := by
 simp [szOk]
 by_cases h : e.length = sz <;> simp [h]
theorem e1_one {b : UInt8} : [e1 b] = eB [b] := rfl
theorem e1_cons {b : UInt8} {l : List UInt8} : e1 b :: eB l = eB (b :: l) := rfl
theorem e1_len {b : UInt8} : (e1 b).length = 1 := rfl
theorem ofCs_e1 {o : Bool} {b : UInt8} : ofCs o false (e1 b) = some (.s (.int .u8 (b.toNat : Int))) := rfl
theorem e1_take {b : UInt8} : (e1 b).take 1 = e1 b := rfl
theorem e1_drop {b : UInt8} : (e1 b).drop 0 = e1 b := rfl
def slA : List (List C) → AV
 | [] => .nilsl
 | l => .sl true l
theorem slA_nil : slA [] = .nilsl := rfl
theorem slA_cons {x : List C} {l : List (List C)} : slA (x :: l) = .sl true (x :: l) := rfl
theorem slA_eB {b : UInt8} {l : List UInt8} : slA (eB (b :: l)) = .sl true (eB (b :: l)) := rfl
theorem cells_undef  : (.undef : AV).cells = [.undef] := rfl
theorem cellOk_undef  : (.undef : AV).cellOk = false := rfl
theorem canon_undef  : (.undef : AV).canon = .undef := rfl
theorem frz_undef (h : Heap)  : frz h (.undef) = some (.undef, h) := rfl
theorem canon1_undef  : (.undef : AV).canon1 = .undef := rfl
theorem frz1_undef (h : Heap)  : frz1 h (.undef) = some (.undef, h) := rfl
theorem cells_s (v : Value) : (.s v : AV).cells = [.s v] := rfl
theorem cellOk_s (v : Value) : (.s v : AV).cellOk = v.oneCell' := rfl
theorem toC_s (v : Value) : (.s v : AV).toC = if v.oneCell' then some (.sc v) else none := rfl
theorem canon_s (v : Value) : (.s v : AV).canon = .s v := rfl
theorem frz_s (h : Heap) (v : Value) : frz h (.s v) = some (.s v, h) := rfl
theorem canon1_s (v : Value) : (.s v : AV).canon1 = .s v := rfl
theorem frz1_s (h : Heap) (v : Value) : frz1 h (.s v) = some (.s v, h) := rfl
theorem cells_sl (o : Bool) (l : List (List C)) : (.sl o l : AV).cells = [.sl o l] := rfl
theorem cellOk_sl (o : Bool) (l : List (List C)) : (.sl o l : AV).cellOk = true := rfl
theorem toC_sl (o : Bool) (l : List (List C)) : (.sl o l : AV).toC = some (.sl l) := rfl
theorem canon_sl (o : Bool) (l : List (List C)) : (.sl o l : AV).canon = .sl o l := rfl
theorem frz_sl (h : Heap) (o : Bool) (l : List (List C)) : frz h (.sl o l) = some (.sl o l, h) := rfl
theorem canon1_sl (o : Bool) (l : List (List C)) : (.sl o l : AV).canon1 = .sl o l := rfl
theorem frz1_sl (h : Heap) (o : Bool) (l : List (List C)) : frz1 h (.sl o l) = some (.sl o l, h) := rfl
theorem elems_sl (h : Heap) (o : Bool) (l : List (List C)) : elems h (.sl o l) = some (o, l) := rfl
theorem srcE_sl (h : Heap) (o : Bool) (l : List (List C)) : srcE h (.sl o l) = some (o, l) := rfl
theorem cells_nilsl  : (.nilsl : AV).cells = [.nilsl] := rfl
theorem cellOk_nilsl  : (.nilsl : AV).cellOk = true := rfl
theorem toC_nilsl  : (.nilsl : AV).toC = some (.sl []) := rfl
theorem canon_nilsl  : (.nilsl : AV).canon = .sl true [] := rfl
theorem frz_nilsl (h : Heap)  : frz h (.nilsl) = some (.nilsl, h) := rfl
theorem canon1_nilsl  : (.nilsl : AV).canon1 = .sl true [] := rfl
theorem frz1_nilsl (h : Heap)  : frz1 h (.nilsl) = some (.nilsl, h) := rfl
theorem elems_nilsl (h : Heap)  : elems h (.nilsl) = some (false, []) := rfl
theorem srcE_nilsl (h : Heap)  : srcE h (.nilsl) = some (false, []) := rfl
theorem cells_esl  : (.esl : AV).cells = [.esl] := rfl
theorem cellOk_esl  : (.esl : AV).cellOk = true := rfl
theorem canon_esl  : (.esl : AV).canon = .esl := rfl
theorem frz_esl (h : Heap)  : frz h (.esl) = some (.esl, h) := rfl
theorem canon1_esl  : (.esl : AV).canon1 = .esl := rfl
theorem frz1_esl (h : Heap)  : frz1 h (.esl) = some (.esl, h) := rfl
theorem elems_esl (h : Heap)  : elems h (.esl) = some (true, []) := rfl
theorem srcE_esl (h : Heap)  : srcE h (.esl) = some (true, []) := rfl
theorem cells_row (id n : Nat) : (.row id n : AV).cells = [.row id n] := rfl
theorem cellOk_row (id n : Nat) : (.row id n : AV).cellOk = true := rfl
theorem canon_row (id n : Nat) : (.row id n : AV).canon = .row id n := rfl
theorem canon1_row (id n : Nat) : (.row id n : AV).canon1 = .row id n := rfl
theorem cells_mp (id : Nat) : (.mp id : AV).cells = [.mp id] := rfl
theorem cellOk_mp (id : Nat) : (.mp id : AV).cellOk = true := rfl
theorem canon_mp (id : Nat) : (.mp id : AV).canon = .mp id := rfl
theorem frz_mp (h : Heap) (id : Nat) : frz h (.mp id) = some (.mp id, h) := rfl
theorem canon1_mp (id : Nat) : (.mp id : AV).canon1 = .mp id := rfl
theorem frz1_mp (h : Heap) (id : Nat) : frz1 h (.mp id) = some (.mp id, h) := rfl
attribute [go_sem] cells_mp cellOk_mp canon_mp frz_mp canon1_mp frz1_mp
theorem cells_ptr (id o : Nat) : (.ptr id o : AV).cells = [.ptr id o] := rfl
theorem cellOk_ptr (id o : Nat) : (.ptr id o : AV).cellOk = true := rfl
theorem canon_ptr (id o : Nat) : (.ptr id o : AV).canon = .ptr id o := rfl
theorem frz_ptr (h : Heap) (id o : Nat) : frz h (.ptr id o) = some (.ptr id o, h) := rfl
theorem canon1_ptr (id o : Nat) : (.ptr id o : AV).canon1 = .ptr id o := rfl
theorem frz1_ptr (h : Heap) (id o : Nat) : frz1 h (.ptr id o) = some (.ptr id o, h) := rfl
theorem cells_eptr (id n i k : Nat) : (.eptr id n i k : AV).cells = [.eptr id n i k] := rfl
theorem cellOk_eptr (id n i k : Nat) : (.eptr id n i k : AV).cellOk = true := rfl
theorem canon_eptr (id n i k : Nat) : (.eptr id n i k : AV).canon = .eptr id n i k := rfl
theorem frz_eptr (h : Heap) (id n i k : Nat) : frz h (.eptr id n i k) = some (.eptr id n i k, h) := rfl
theorem canon1_eptr (id n i k : Nat) : (.eptr id n i k : AV).canon1 = .eptr id n i k := rfl
theorem frz1_eptr (h : Heap) (id n i k : Nat) : frz1 h (.eptr id n i k) = some (.eptr id n i k, h) := rfl
theorem cells_daddr (o : Bool) (l : List C) : (.daddr o l : AV).cells = [.daddr o l] := rfl
theorem cellOk_daddr (o : Bool) (l : List C) : (.daddr o l : AV).cellOk = true := rfl
theorem canon_daddr (o : Bool) (l : List C) : (.daddr o l : AV).canon = .daddr o l := rfl
theorem frz_daddr (h : Heap) (o : Bool) (l : List C) : frz h (.daddr o l) = some (.daddr o l, h) := rfl
theorem canon1_daddr (o : Bool) (l : List C) : (.daddr o l : AV).canon1 = .daddr o l := rfl
theorem frz1_daddr (h : Heap) (o : Bool) (l : List C) : frz1 h (.daddr o l) = some (.daddr o l, h) := rfl
theorem cells_agg (l : List AV) : (.agg l : AV).cells = l := rfl
theorem cellOk_agg (l : List AV) : (.agg l : AV).cellOk = false := rfl
theorem canon_agg (l : List AV) : (.agg l : AV).canon = .agg (l.map AV.canon1) := rfl
theorem frz_agg (h : Heap) (l : List AV) : frz h (.agg l) = match frzL h l with
  | some (l', h') => some (.agg l', h')
  | none => none := rfl
theorem canon1_agg (l : List AV) : (.agg l : AV).canon1 = .agg l := rfl
theorem frz1_agg (h : Heap) (l : List AV) : frz1 h (.agg l) = some (.agg l, h) := rfl
theorem cells_tup (l : List AV) : (.tup l : AV).cells = [.tup l] := rfl
theorem cellOk_tup (l : List AV) : (.tup l : AV).cellOk = false := rfl
theorem canon_tup (l : List AV) : (.tup l : AV).canon = .tup l := rfl
theorem frz_tup (h : Heap) (l : List AV) : frz h (.tup l) = some (.tup l, h) := rfl
theorem canon1_tup (l : List AV) : (.tup l : AV).canon1 = .tup l := rfl
theorem frz1_tup (h : Heap) (l : List AV) : frz1 h (.tup l) = some (.tup l, h) := rfl
theorem cells_ifc (t : Nat) (v : AV) : (.ifc t v : AV).cells = [.ifc t v] := rfl
theorem cellOk_ifc (t : Nat) (v : AV) : (.ifc t v : AV).cellOk = true := rfl
theorem canon_ifc (t : Nat) (v : AV) : (.ifc t v : AV).canon = .ifc t v := rfl
theorem frz_ifc (h : Heap) (t : Nat) (v : AV) : frz h (.ifc t v) = some (.ifc t v, h) := rfl
theorem canon1_ifc (t : Nat) (v : AV) : (.ifc t v : AV).canon1 = .ifc t v := rfl
theorem frz1_ifc (h : Heap) (t : Nat) (v : AV) : frz1 h (.ifc t v) = some (.ifc t v, h) := rfl
theorem cells_clos (f : Nat) (l : List AV) : (.clos f l : AV).cells = [.clos f l] := rfl
theorem cellOk_clos (f : Nat) (l : List AV) : (.clos f l : AV).cellOk = true := rfl
theorem canon_clos (f : Nat) (l : List AV) : (.clos f l : AV).canon = .clos f l := rfl
theorem frz_clos (h : Heap) (f : Nat) (l : List AV) : frz h (.clos f l) = some (.clos f l, h) := rfl
theorem canon1_clos (f : Nat) (l : List AV) : (.clos f l : AV).canon1 = .clos f l := rfl
theorem frz1_clos (h : Heap) (f : Nat) (l : List AV) : frz1 h (.clos f l) = some (.clos f l, h) := rfl
theorem frz_row (h : Heap) (id n : Nat) : frz h (.row id n) = match rowAt h id n with
  | some (e, s, o, _, l) => some (.sl o l, h.set id (some (.row e s o true l)))
  | none => none := rfl
theorem frz1_row (h : Heap) (id n : Nat) : frz1 h (.row id n) = match rowAt h id n with
  | some (e, s, o, _, l) => some (.sl o l, h.set id (some (.row e s o true l)))
  | none => none := rfl
theorem elems_row (h : Heap) (id n : Nat) : elems h (.row id n) = match rowAt h id n with
  | some (_, _, o, _, l) => some (o, l)
  | none => none := rfl
theorem srcE_row (h : Heap) (id n : Nat) : srcE h (.row id n) = match rowAt h id n with
  | some (_, _, o, _, l) => some (o, l)
  | none => none := rfl
theorem srcE_str (h : Heap) (s : ByteArray) : srcE h (.s (.string s)) = some (false, eB s.data.toList) := rfl
theorem yO_eB (o : Bool) (b : List UInt8) : yO 1 o (eB b) = false := by
 have : ((eB b).all fun e => e.all C.isSc) = true := by
  rw [List.all_eq_true]
  intro e he
  simp only [eB, List.mem_map] at he
  obtain ⟨x, _, rfl⟩ := he
  rfl
 simp [yO, this]
theorem yO_ne {n : Nat} (h : ¬ n = 1) (o : Bool) (m : List (List C)) : yO n o m = o := if_neg h
theorem yO_nil1 (o : Bool) : yO 1 o [] = false := by simp [yO]
attribute [go_sem] yO_eB yO_ne yO_nil1
def appK (h : Heap) (slot ety sz bytes : Nat) (x : AV) : Option (Bool × List (List C)) → Option (AV × Heap)
 | some (o, m) => if szOk sz m then (match x with
   | .nilsl => if m.isEmpty then some (.nilsl, h) else if m.length * bytes ≤ 140737488355328 ∧ m.length ≤ 140737488355328 then (match alloc [(slot, .row ety sz (yO bytes o m) false m)] h with
    | some h' => some (.row slot m.length, h')
    | none => none) else none
   | .row id n => match rowAt h id n with
    | some (e, s, o', false, l) => if e = ety ∧ s = sz ∧ (l.length + m.length) * bytes ≤ 140737488355328 ∧ l.length + m.length ≤ 140737488355328 then some (.row id (l ++ m).length, h.set id (some (.row e s (o' || yO bytes o m) false (l ++ m)))) else none
    | _ => none
   | _ => none) else none
 | none => none
def storeK (h : Heap) (sz : Nat) (a x : AV) : Option (AV × Heap) :=
 if x.cells.length = sz ∧ x.cells.all AV.cellOk then
  (match a with
  | .ptr id o => match getO h id with
   | some (.var cells) => if o + sz ≤ cells.length then some (.s undef, h.set id (some (.var (cells.take o ++ x.cells ++ cells.drop (o + sz))))) else none
   | _ => none
  | .eptr id n i k => match rowAt h id n with
   | some (e, s, old, false, l) => match l[i]?, toCs x.cells with
    | some el, some cs => if k + sz ≤ el.length then some (.s undef, h.set id (some (.row e s (old || x.isOld) false (l.set i (el.take k ++ cs ++ el.drop (k + sz)))))) else none
    | _, _ => none
   | _ => none
  | _ => none) else none
def callvK (F : FnEv) (h : Heap) (g : AV) (args : List AV) (outs : List Nat) : Option (AV × Heap) := match g with
 | .clos f caps => if f < 1000000 then evCall F h f (args ++ caps) outs else none
 | _ => none
section
variable {G : Cf} {F : FnEv} {t : List AV} {h : Heap}
theorem evW_app' {slot ety sz bytes : Nat} {x y : O} : evW G t F h (.app slot ety sz bytes x y) = appK h slot ety sz bytes (rho G t x) (srcE h (rho G t y)) := by
 rw [evW_app]
 simp only [appK]
 cases srcE h (rho G t y) with
 | none => rfl
 | some p => rfl
theorem evW_store {sz : Nat} {a x : O} : evW G t F h (.store sz a x) = storeK h sz (rho G t a) (rho G t x) := rfl
theorem evW_call {f : Nat} {args : List O} {outs : List Nat} : evW G t F h (.call f args outs) = evCall F h f (args.map (rho G t)) outs := rfl
theorem evW_callv {g : O} {args : List O} {outs : List Nat} : evW G t F h (.callv g args outs) = callvK F h (rho G t g) (args.map (rho G t)) outs := by
 simp only [evW, callvK]
 cases rho G t g <;> rfl
theorem callvK_clos {f : Nat} {caps args : List AV} {outs : List Nat} : callvK F h (.clos f caps) args outs = if f < 1000000 then evCall F h f (args ++ caps) outs else none := rfl
theorem evW_appz {slot ety sz bytes : Nat} {zero : List Value} {x n : O} : evW G t F h (.appz slot ety sz bytes zero x n) = match rho G t n with
  | .s (.int .i64 m) => if 0 ≤ m ∧ m * bytes ≤ 140737488355328 ∧ m ≤ 140737488355328 then (match rho G t x with
   | .nilsl => if m = 0 then some (.nilsl, h) else (match alloc [(slot, .row ety sz false false (List.replicate m.toNat (zero.map cOf)))] h with
    | some h' => some (.row slot m.toNat, h')
    | none => none)
   | _ => none) else none
  | _ => none := rfl
theorem evW_trunc {slot : Nat} {x hi : O} : evW G t F h (.trunc slot x hi) = match rho G t x, rho G t hi with
  | .row id n, .s (.int _ i) => match rowAt h id n with
   | some (e, s, o, false, l) => if 0 ≤ i ∧ i ≤ l.length then (match alloc [(slot, .row e s o false (l.take i.toNat))] (h.set id (some .dead)) with
    | some h' => some (.row slot i.toNat, h')
    | none => none) else none
   | _ => none
  | .nilsl, .s (.int _ i) => if i = 0 then some (.nilsl, h) else none
  | _, _ => none := rfl
theorem evW_markb {x : O} : evW G t F h (.markb x) = match rho G t x with
  | .row id n => match rowAt h id n with
   | some (_, _, o, false, l) => some (.sl o l, h.set id (some .dead))
   | _ => none
  | _ => none := rfl
end
theorem binA_nn {op : BinOp} : binA .slice op .nilsl .nilsl = (negIf op true).map .bool := rfl
theorem binA_sn {op : BinOp} {o : Bool} {x : List C} {l : List (List C)} : binA .slice op (.sl o (x :: l)) .nilsl = (negIf op false).map .bool := rfl
theorem binA_sB {op : BinOp} {o : Bool} {x : UInt8} {l : List UInt8} : binA .slice op (.sl o (eB (x :: l))) .nilsl = (negIf op false).map .bool := rfl
theorem binA_en {op : BinOp} : binA .slice op .esl .nilsl = (negIf op false).map .bool := rfl
theorem binA_rn {op : BinOp} {i n : Nat} : binA .slice op (.row i n) .nilsl = (negIf op false).map .bool := rfl
theorem binA_pn {op : BinOp} {i o : Nat} : binA .ptr op (.ptr i o) (.s (.pointer none)) = (negIf op false).map .bool := rfl
theorem binA_in {op : BinOp} {e t : Nat} {c : Bool} {v : AV} : binA (.iface e c) op (.ifc t v) (.s .nilIface) = (negIf op false).map .bool := rfl
theorem binA_arr {op : BinOp} {n : Nat} {a b : List AV} : binA (.arr n) op (.agg a) (.agg b) = if a.length = n ∧ b.length = n then (match ints a, ints b with
   | some a, some b => ((eqInts a b).bind (negIf op)).map .bool
   | _, _ => none) else none := rfl
theorem min_8 : min 8 64 = 8 := rfl
theorem pow_8 : (2 : Int) ^ 8 = 256 := rfl
theorem or_low {a x : Int} (h : (0 ≤ a ∧ a < 72057594037927936) ∧ 0 ≤ x ∧ x < 256) : orI .u64 (a * 256) x = a * 256 + x := by
 obtain ⟨⟨h0, h1⟩, h2, h3⟩ := h
 obtain ⟨n, rfl⟩ := Int.eq_ofNat_of_zero_le h0
 obtain ⟨m, rfl⟩ := Int.eq_ofNat_of_zero_le h2
 have e1 : (BitVec.ofInt 64 ((n : Int) * 256)).toNat = n * 256 := by
  rw [BitVec.toNat_ofInt]
  omega
 have e2 : (BitVec.ofInt 64 (m : Int)).toNat = m := by
  rw [BitVec.toNat_ofInt]
  omega
 have e3 : 256 * n ||| m = 256 * n + m := by
  have := Nat.two_pow_add_eq_or_of_lt (i := 8) (b := m) (by omega) n
  rw [show (2 : Nat) ^ 8 = 256 from rfl] at this
  exact this.symm
 unfold orI
 have hb : IntKind.bits .u64 = 64 := rfl
 rw [hb, BitVec.toNat_or, e1, e2, Nat.mul_comm, e3, wrap_u64 (by omega)]
 omega
theorem ofCs_one {o : Bool} {c : C} : ofCs o false [c] = some (ofC o c) := rfl
theorem ofCs_agg {o : Bool} {l : List C} : ofCs o true l = some (.agg (l.map (ofC o))) := rfl
theorem ofC_sc {o : Bool} {v : Value} : ofC o (.sc v) = .s v := rfl
theorem ofC_sl {o : Bool} {l : List (List C)} : ofC o (.sl l) = .sl o l := rfl
theorem cls_pr : (Cls.p = Cls.r) = False := by simp
theorem cls_wr : (Cls.w = Cls.r) = False := by simp
def eI (k : IntKind) (l : List Int) : List (List C) := l.map fun n => [.sc (.int k n)]
theorem eI_len {k : IntKind} {l : List Int} : (eI k l).length = l.length := by simp [eI]
theorem eI_sz {k : IntKind} {l : List Int} : szOk 1 (eI k l) = true := by simp [szOk, eI]
theorem eI_get {k : IntKind} {l : List Int} {i : Nat} (h : i < l.length) : (eI k l)[i]? = some [.sc (.int k (l.getD i 0))] := by
 simp [eI, List.getD, h]
def eBs (l : List (List UInt8)) : List (List C) := l.map fun b => [.sl (eB b)]
theorem eBs_len {l : List (List UInt8)} : (eBs l).length = l.length := by simp [eBs]
theorem eBs_sz {l : List (List UInt8)} : szOk 1 (eBs l) = true := by simp [szOk, eBs]
theorem eBs_get {l : List (List UInt8)} {i : Nat} (h : i < l.length) : (eBs l)[i]? = some [.sl (eB (l.getD i []))] := by
 simp [eBs, List.getD, h]
theorem drop_step {α : Type} {l : List α} {d : α} {i : Nat} (h : i < l.length) : l.drop i = l.getD i d :: l.drop (i + 1) := by
 rw [List.drop_eq_getElem_cons h]
 simp [List.getD, h]
theorem getD_mem' {α : Type} {l : List α} {d : α} {i : Nat} (h : i < l.length) : l.getD i d ∈ l := by
 rw [List.getD, List.getElem?_eq_getElem h]
 exact List.getElem_mem h
theorem qK_some {outs : List Nat} {h : Heap} {rs : List AV} {os : List Obj} : qK outs h (some (rs, os)) = if os.length = outs.length then (match alloc (outs.zip (os.map (Obj.ren fun i => outs.getD i 0))) h with
  | some h' => some (finishCall (renL (fun i => outs.getD i 0) rs), h')
  | none => none) else none := rfl
theorem cK_some {ids outs : List Nat} {h : Heap} {rs : List AV} {os' : List Obj} : cK ids outs h (some (rs, os')) = if os'.length = ids.length + (fitO h outs os'.length ids.length).length then (match alloc ((fitO h outs os'.length ids.length).zip ((os'.drop ids.length).map (Obj.ren fun i => (ids ++ fitO h outs os'.length ids.length).getD i 0))) (putAll ids ((os'.take ids.length).map (Obj.ren fun i => (ids ++ fitO h outs os'.length ids.length).getD i 0)) h) with
  | some h' => some (finishCall (renL (fun i => (ids ++ fitO h outs os'.length ids.length).getD i 0) rs), h')
  | none => none) else none := rfl
theorem evC_unf {tab : Nat → Option Fn} {G : Cf} {h : Heap} {f : Nat} {args : List AV} {outs ids : List Nat} : evC tab G h f args outs ids = if (closed h (refsL args) ids && decide ids.Nodup) = true then (match getAll h ids with
  | some os => cK ids outs h (Ev tab G f (cArgs tab f (ageL true (renL (fun i => ids.idxOf i) args))) (os.map fun o => (o.ren fun i => ids.idxOf i).age true))
  | none => none) else none := rfl
theorem e1_drop1 {b : UInt8} : (e1 b).drop 1 = [] := rfl
theorem e1_cell {b : UInt8} : [C.sc (.int .u8 (b.toNat : Int))] = e1 b := rfl
theorem toCs_u8 {n : Int} : toCs [.s (.int .u8 n)] = some [.sc (.int .u8 n)] := rfl
abbrev i64 (n : Int) : AV := .s (.int .i64 n)
abbrev u64 (n : Int) : AV := .s (.int .u64 n)
abbrev u8 (n : Int) : AV := .s (.int .u8 n)
abbrev bo (b : Bool) : AV := .s (.bool b)
attribute [go_sem] app_done app_none app_seq app_skip app_reg0 app_reg app_cond app_block app_exit app_ret app_seq_n app_seq_e app_seq_r app_block_n app_block_e app_block_r app_ops_nil app_op app_opF app_opG opF_some opR_some opR_none isB_bool b_bool isU_undef isU_bool isB_undef fin_n fin_r fin_none fin_ite again_n again_e again_r again_none again_ite
attribute [go_sem] ilt_t ilt_f ile_t ile_f ieq_t ieq_f nlt_t nlt_f nle_t neq_f bft btf bff btt beq_t beq_f
attribute [go_sem] v_add v_sub v_mul v_quo v_rem v_or v_shl v_shr v_eql v_neq v_lss v_leq v_gtr v_geq v_str v_beql v_bneq v_ifc v_ifc_nr v_ifc_nl v_ifc_nn eqIface_int n_eql n_neq binA_s s_eql s_neq s_lss s_leq s_gtr s_geq
attribute [go_sem] wrap_u64 wrap_u8 wrap_i64 tdiv_nn tmod_nn
attribute [go_sem] cells_undef cellOk_undef canon_undef frz_undef canon1_undef frz1_undef cells_s cellOk_s toC_s canon_s frz_s canon1_s frz1_s cells_sl cellOk_sl toC_sl canon_sl frz_sl canon1_sl frz1_sl elems_sl srcE_sl cells_nilsl cellOk_nilsl toC_nilsl canon_nilsl frz_nilsl canon1_nilsl frz1_nilsl elems_nilsl srcE_nilsl cells_esl cellOk_esl canon_esl frz_esl canon1_esl frz1_esl elems_esl srcE_esl cells_row cellOk_row canon_row canon1_row cells_ptr cellOk_ptr canon_ptr frz_ptr canon1_ptr frz1_ptr cells_eptr cellOk_eptr canon_eptr frz_eptr canon1_eptr frz1_eptr cells_daddr cellOk_daddr canon_daddr frz_daddr canon1_daddr frz1_daddr cells_agg cellOk_agg canon_agg frz_agg canon1_agg frz1_agg cells_tup cellOk_tup canon_tup frz_tup canon1_tup frz1_tup cells_ifc cellOk_ifc canon_ifc frz_ifc canon1_ifc frz1_ifc cells_clos cellOk_clos canon_clos frz_clos canon1_clos frz1_clos frz_row frz1_row elems_row srcE_row srcE_str evW_app' evW_store evW_call evW_callv callvK_clos evW_appz evW_trunc evW_markb appK storeK eB_nil
attribute [go_sem] min_8 pow_8
attribute [go_sem] List.nodup_cons List.nodup_nil List.mem_cons List.not_mem_nil or_false or_self
attribute [go_sem] app_regQ app_Q_nil app_Qop0 app_QopS app_QopN okFQ pinAt pinLd ptrIs
attribute [go_sem] app_P_nil app_Pop app_PopF app_PopG footF fp okF disj disjL List.flatMap_nil List.flatMap_cons
attribute [go_sem] cls_pr cls_wr
attribute [go_sem] beq_iff_eq
attribute [go_sem] eI_len eI_sz eI_get eBs_len eBs_sz eBs_get
attribute [go_sem] ofCs_one ofCs_agg ofC_sc ofC_sl
attribute [go_sem] List.take_length List.drop_length
attribute [go_sem] binA_nn binA_sn binA_sB binA_en binA_rn binA_pn binA_in binA_arr
attribute [go_sem] eB_set szOk_nil szOk_cons List.append_assoc sc_wrap sc_u8 sc_toNat eB_app e1_one e1_cons e1_len ofCs_e1 e1_take slA_nil slA_cons slA_eB
attribute [go_sem] eB_len eB_sz bytesOf_eB eB_take eB_drop eB_get toList_mk data_mk
attribute [go_sem] fitO Option.isNone_none Option.isNone_some List.take_succ_cons List.take_zero List.take_nil
attribute [go_sem] padR cntT Nat.sub_self
attribute [go_sem] ev1 evP evR Ev.start Ev.finish resOf frzRes frzC frzL frzTs Op1.cls alloc rho ofV ofV1 setD closed reach reachN refsL AV.refs getAll renL AV.ren Ev.getO refsO finishCall fillA partsA partsE toCs isOldParts fillE cOf Ev.rowAt clean keepT prune ageL AV.age Obj.age Obj.ren Obj.refs isOldL AV.isOld unA putAll bound bounds
attribute [go_sem] List.getD_cons_succ List.getD_cons_zero List.set_cons_succ List.set_cons_zero List.replicate_succ List.replicate_zero List.length_cons List.length_nil List.cons_append List.nil_append List.append_nil List.all_nil List.all_cons List.map_nil List.map_cons List.range'_zero List.range'_succ List.filter_nil List.headD_nil List.tail_nil List.headD_cons List.tail_cons List.getElem?_cons_zero List.getElem?_cons_succ List.getElem?_nil List.isEmpty_nil List.isEmpty_cons List.drop_zero List.take_zero List.drop_succ_cons List.take_succ_cons List.take_nil List.drop_nil List.filter_cons List.contains_nil List.contains_cons List.all_append List.zip_nil_left List.zip_nil_right List.zip_cons_cons List.any_nil List.any_cons List.idxOf_nil List.idxOf_cons List.mapIdx_cons List.mapIdx_nil List.elem_nil List.length_append List.length_map
attribute [go_sem] if_true if_false if_pos if_neg ite_true ite_false Bool.false_eq_true Bool.true_eq_false Bool.and_true Bool.true_and Bool.and_false Bool.false_and Bool.or_false Bool.or_true Bool.false_or Bool.true_or Bool.not_true Bool.not_false Bool.not_eq_true Option.map_some Option.map_none Option.bind_some Option.getD_some true_and and_true and_self and_false false_and decide_true decide_false decide_eq_true_eq beq_self_eq_true Option.isSome_some Option.isSome_none Nat.zero_add Nat.add_zero Nat.mul_one Int.cast_ofNat_Int Int.natCast_zero Int.natCast_one Int.natCast_add Nat.lt_add_one Go.Value.oneCell' not_true_eq_false not_false_eq_true cond_true cond_false Bool.cond_false_right Bool.cond_true_left Int.toNat_natCast ge_iff_le gt_iff_lt Bool.and_eq_true Bool.or_eq_true Bool.not_eq_true' decide_eq_false_iff_not Bool.and_self
theorem scRow_row {e s : Nat} {o : Bool} {l : List (List C)} : scRow (.row e s o false l) = l.all fun e => e.all C.isSc := rfl
theorem scRow_dead : scRow .dead = true := rfl
theorem isSc_sc {v : Value} : C.isSc (.sc v) = true := rfl
attribute [go_sem] bV_some bK_some bK_none vL_nil vCons_some v_s' v_sl' v_nilsl' v_esl' v_agg' v_row' scRow_row scRow_dead isSc_sc
attribute [go_sem] canonA evCall_C evC_unf qK_some qK_none cK_some cK_none
attribute [go_sem ↓ high] op_qcall
attribute [go_sem] e1_drop1
end Go.Ev
set_option linter.unusedSimpArgs false
set_option linter.unusedVariables false
namespace Go.Ev
open Go.RowKit Go.ChangeShapes Go.WideShapes Go.ChangeAt
theorem cBLL_eB (l : List UInt8) : cBLL (eB l) = l.length := by
 induction l with
 | nil => rfl
 | cons b l ih => simp only [eB, List.map_cons, cBLL, cBL, cB, List.length_cons] at ih ⊢; omega
theorem typ_bytes {P : Program} {n : Nat} {t e : TypeId} {es : List C} (hu : P.underlying t = some (.slice e)) (he : P.underlying e = some (.int .u8)) (h : TypC P n t es) : ∃ l : List UInt8, es = [.sl (eB l)] := by
 cases n with
 | zero => exact h.elim
 | succ n =>
  simp only [TypC, hu] at h
  obtain ⟨l, rfl, hl⟩ := h
  have key : ∀ l : List (List C), (∀ x ∈ l, x.length = P.cellsOf e ∧ TypC P n e x) → ∃ m : List UInt8, l = eB m := by
   intro l
   induction l with
   | nil => exact fun _ => ⟨[], rfl⟩
   | cons x l ih =>
    intro hl
    obtain ⟨m, rfl⟩ := ih fun y hy => hl y (by simp [hy])
    obtain ⟨i, rfl, hw⟩ := typ_int he (hl x (by simp)).2
    have hb : 0 ≤ i ∧ i < 256 := by
     simp [Lit.wf, IntKind.has, IntKind.min, IntKind.max, IntKind.signed, IntKind.bits] at hw
     omega
    exact ⟨byt i :: m, by rw [sc_u8 hb, e1_cons]⟩
  obtain ⟨m, rfl⟩ := key l hl
  exact ⟨m, rfl⟩
theorem typ_ints {P : Program} {n : Nat} {t e : TypeId} {es : List C} {k : IntKind} (hu : P.underlying t = some (.slice e)) (he : P.underlying e = some (.int k)) (h : TypC P n t es) : ∃ l : List Int, es = [.sl (eI k l)] ∧ ∀ i ∈ l, (Lit.int k i).wf = true := by
 cases n with
 | zero => exact h.elim
 | succ n =>
  simp only [TypC, hu] at h
  obtain ⟨l, rfl, hl⟩ := h
  have key : ∀ l : List (List C), (∀ x ∈ l, x.length = P.cellsOf e ∧ TypC P n e x) → ∃ m : List Int, l = eI k m ∧ ∀ i ∈ m, (Lit.int k i).wf = true := by
   intro l
   induction l with
   | nil => exact fun _ => ⟨[], rfl, fun i h => by simp at h⟩
   | cons x l ih =>
    intro hl
    obtain ⟨m, rfl, hm⟩ := ih fun y hy => hl y (by simp [hy])
    obtain ⟨i, rfl, hw⟩ := typ_int he (hl x (by simp)).2
    exact ⟨i :: m, rfl, fun j hj => by
     rcases List.mem_cons.1 hj with rfl | hj
     ·exact hw
     ·exact hm j hj⟩
  obtain ⟨m, rfl, hm⟩ := key l hl
  exact ⟨m, rfl, hm⟩
theorem cBLL_eI (k : IntKind) (l : List Int) : cBLL (eI k l) = l.length := by
 induction l with
 | nil => rfl
 | cons b l ih => simp only [eI, List.map_cons, cBLL, cBL, cB, List.length_cons] at ih ⊢; omega
theorem cBLL_eBs (l : List (List UInt8)) : cBLL (eBs l) = (l.map fun b => b.length + 1).sum := by
 induction l with
 | nil => rfl
 | cons b l ih =>
  simp only [eBs, List.map_cons, cBLL, cBL, cB, cBLL_eB, List.sum_cons] at ih ⊢
  omega
theorem typ_struct {P : Program} {n : Nat} {t : TypeId} {es : List C} {fs : Array Field} (hu : P.underlying t = some (.struct fs)) (h : TypC P n t es) : es.length = P.cellsOf t ∧ ∃ m, ∀ c ∈ chunks P t, TypC P m c.2.2 ((es.drop c.1).take c.2.1) := by
 cases n with
 | zero => exact h.elim
 | succ n =>
  simp only [TypC, hu] at h
  exact ⟨h.1, n, h.2⟩
theorem typ_slice {P : Program} {n : Nat} {t e : TypeId} {es : List C} (hu : P.underlying t = some (.slice e)) (h : TypC P n t es) : ∃ l : List (List C), es = [.sl l] ∧ ∃ m, ∀ x ∈ l, TypC P m e x := by
 cases n with
 | zero => exact h.elim
 | succ n =>
  simp only [TypC, hu] at h
  obtain ⟨l, rfl, hl⟩ := h
  exact ⟨l, rfl, n, fun x hx => (hl x hx).2⟩
theorem list_of {α : Type} {f : α → List C} {p : α → Prop} : ∀ {l : List (List C)}, (∀ x ∈ l, ∃ d, x = f d ∧ p d) → ∃ ds : List α, l = ds.map f ∧ ∀ d ∈ ds, p d
 | [], _ => ⟨[], rfl, fun d h => by simp at h⟩
 | x :: l, h => by
  obtain ⟨d, rfl, hd⟩ := h x (by simp)
  obtain ⟨ds, rfl, hds⟩ := list_of (l := l) fun y hy => h y (by simp [hy])
  exact ⟨d :: ds, rfl, fun q hq => by
   rcases List.mem_cons.1 hq with rfl | hq
   ·exact hd
   ·exact hds q hq⟩
end Go.Ev
set_option linter.unusedSimpArgs false
set_option linter.unusedVariables false
namespace Go.Ev
section
variable (G : Cf) (X' : FnEv)
theorem rho_X : @rho { G with X := X' } = @rho G := rfl
theorem partsA_X (t : List AV) : ∀ l, partsA { G with X := X' } t l = partsA G t l
 | [] => rfl
 | (a, b, c) :: r => by simp only [partsA, partsA_X t r, rho_X]; rfl
theorem partsE_X (t : List AV) (sz n : Nat) : ∀ l, partsE { G with X := X' } t sz n l = partsE G t sz n l
 | [] => rfl
 | (a, b) :: r => by simp only [partsE, partsE_X t sz n r, rho_X]
theorem isOldParts_X (t : List AV) : ∀ l, isOldParts { G with X := X' } t l = isOldParts G t l
 | [] => rfl
 | (a, b) :: r => by simp only [isOldParts, isOldParts_X t r, rho_X]
theorem evP_X (t : List AV) (F : FnEv) (o : Op1) : evP { G with X := X' } t F o = evP G t F o := by
 cases o <;> first
  | rfl
  | (simp only [evP, partsA_X]; done)
  | (simp only [evP, partsE_X, isOldParts_X]; done)
theorem evR_X : @evR { G with X := X' } = @evR G := rfl
theorem evW_X : @evW { G with X := X' } = @evW G := rfl
theorem ev1_X (F : FnEv) (st : St) (o : Op1) : ev1 { G with X := X' } F st o = ev1 G F st o := by
 simp only [ev1, evP_X, evR_X, evW_X]
theorem evOp_X (F : FnEv) (o : Opr) (st : St) : evOp { G with X := X' } F o st = evOp G F o st := by
 simp only [evOp, ev1_X, rho_X]
theorem evOps_X (F : FnEv) : ∀ (l : List Opr) (st : St), evOps { G with X := X' } F l st = evOps G F l st
 | [], st => rfl
 | o :: l, st => by
  simp only [evOps, evOp_X]
  split
  ·exact evOps_X F l _
  ·rfl
theorem foot_X : @foot { G with X := X' } = @foot G := rfl
theorem feet_X (F : FnEv) : ∀ (l : List Opr) (st : St), feet { G with X := X' } F l st = feet G F l st
 | [], st => rfl
 | o :: l, st => by
  simp only [feet, evOp_X, foot_X]
  split
  ·rw [feet_X F l _]
  ·rfl
theorem sts_X (F : FnEv) : ∀ (l : List Opr) (st : St), sts { G with X := X' } F l st = sts G F l st
 | [], st => rfl
 | o :: l, st => by
  simp only [sts, evOp_X]
  split
  ·rw [sts_X F l _]
  ·rfl
theorem pinLdL_X (p : Pin) : ∀ (k : Nat) (l : List Opr) (ss : List St), pinLdL { G with X := X' } p k l ss = pinLdL G p k l ss
 | 0, o :: _, s :: _ => rfl
 | k + 1, _ :: os, _ :: ss => pinLdL_X p k os ss
 | 0, [], _ => rfl
 | 0, _ :: _, [] => rfl
 | _ + 1, [], _ => rfl
 | _ + 1, _ :: _, [] => rfl
theorem okPr_X (pairs : List (Nat × Nat)) (ops : List Opr) (fs : List (List Nat × List Nat)) (ss : List St) : okPr { G with X := X' } pairs ops fs ss = okPr G pairs ops fs ss := by
 simp only [okPr, pinLdL_X]
theorem okPairs_X (F : FnEv) (pairs : List (Nat × Nat)) (ops : List Opr) (st : St) : okPairs { G with X := X' } F pairs ops st = okPairs G F pairs ops st := by
 simp only [okPairs, feet_X, sts_X, okPr_X]
theorem evIR_X (L : (St → Option (Ex × St)) → St → Option (Ex × St)) (F : FnEv) (ns : Nat) : ∀ (ir : IR) (st : St), evIR { G with X := X' } L F ns ir st = evIR G L F ns ir st
 | .skip, st => rfl
 | .reg pairs ops, st => by simp only [evIR, okPairs_X, evOps_X]
 | .seq a b, st => by
  simp only [evIR, evIR_X L F ns a]
  split
  ·exact evIR_X L F ns b _
  ·rfl
 | .cond c a b, st => by simp only [evIR, evIR_X L F ns a, evIR_X L F ns b, rho_X]
 | .block id k b, st => by simp only [evIR, evIR_X L F ns b]
 | .loop k b, st => by
  simp only [evIR]
  rw [show (fun st => loopEnd ns k (evIR { G with X := X' } L F ns b st)) = fun st => loopEnd ns k (evIR G L F ns b st) from funext fun st => by rw [evIR_X L F ns b]]
 | .exit i k, st => rfl
 | .ret k, st => rfl
theorem evFn1_X (L : (St → Option (Ex × St)) → St → Option (Ex × St)) (F : FnEv) (fn : Fn) (args : List AV) (ins : List Obj) : evFn1 { G with X := X' } L F fn args ins = evFn1 G L F fn args ins := by
 simp only [evFn1, evIR_X]
theorem evFnC_X (L : (St → Option (Ex × St)) → St → Option (Ex × St)) (F : FnEv) (fn : Fn) (args : List AV) (ins : List Obj) : evFnC { G with X := X' } L F fn args ins = evFnC G L F fn args ins := by
 unfold evFnC
 split <;> simp only [evFn1_X]
end
theorem le_X {tab : Nat → Option Fn} {G : Cf} {X' : FnEv} (h : Le G.X X') : ∀ n, Le (evN tab G n) (evN tab { G with X := X' } n)
 | 0 => fun f args ins r he => by simp [evN] at he
 | n + 1 => fun f args ins r he => by
  simp only [evN, evFn] at he ⊢
  split at he
  ·rename_i fn hfn
   rw [evFnC_X]
   exact le_fnC (le_X h n) (Nat.le_refl _) he
  ·exact h _ _ _ _ he
theorem Ev_X {tab : Nat → Option Fn} {G : Cf} {X' : FnEv} (h : Le G.X X') {f : Nat} {args : List AV} {ins : List Obj} {r : List AV × List Obj} (he : Ev tab G f args ins = some r) : Ev tab { G with X := X' } f args ins = some r := by
 obtain ⟨n0, hn⟩ := lim_some he
 exact lim_of ⟨n0, fun n hle => le_X h n _ _ _ _ (hn n hle)⟩
theorem lens {α : Type} : (∀ (a : α) (l : List α), (a :: l).length = l.length + 1) ∧ (([] : List α).length = 0) ∧ (∀ l m : List α, (l ++ m).length = l.length + m.length) ∧ (∀ (n : Nat) (l : List α), (l.take n).length = min n l.length) ∧ (∀ (n : Nat) (l : List α), (l.drop n).length = l.length - n) :=
 ⟨fun _ _ => rfl, rfl, fun _ _ => List.length_append, fun _ _ => List.length_take, fun _ _ => List.length_drop⟩
end Go.Ev
