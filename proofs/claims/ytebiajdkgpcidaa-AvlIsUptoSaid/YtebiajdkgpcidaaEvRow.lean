/-
  What comes in, as the evaluator's values; and a law's row out of what the evaluator says of it.
-/
import Derived.Test.YtebiajdkgpcidaaEvLim
import Derived.Below
import GoSem.ClaimChange
set_option linter.unusedSimpArgs false
set_option linter.unusedVariables false
namespace Go.Ev
open Go.RowKit

theorem mapM_some {α β : Type} {f : α → Option β} : ∀ {l : List α} {ys : List β}, l.mapM f = some ys → ys.length = l.length ∧ ∀ (i : Nat) (a : α), l[i]? = some a → ∃ y, f a = some y ∧ ys[i]? = some y
  | [], ys, h => by
    simp at h
    subst h
    exact ⟨rfl, fun i a h => by simp at h⟩
  | a :: l, ys, h => by
    simp only [List.mapM_cons, Option.bind_eq_bind, Option.bind_eq_some_iff] at h
    obtain ⟨y, h1, ys', h2, h3⟩ := h
    simp at h3
    subst h3
    obtain ⟨h4, h5⟩ := mapM_some h2
    refine ⟨by simp [h4], fun i b hb => ?_⟩
    cases i with
    | zero => simp at hb; subst hb; exact ⟨y, h1, rfl⟩
    | succ i => simpa using h5 i b (by simpa using hb)

/-- A type's parts: where each begins, how many cells it has, its type. -/
def chunks (P : Program) (t : TypeId) : List (Nat × Nat × TypeId) := match P.underlying t with
  | some (.struct fs) => fs.toList.map fun f => (f.offset, P.cellsOf f.type, f.type)
  | some (.array n e) => (List.range n).map fun i => (i * P.cellsOf e, P.cellsOf e, e)
  | _ => []
def tiles : List (Nat × Nat × TypeId) → Nat → Nat → Bool
  | [], off, tot => off == tot
  | c :: r, off, tot => c.1 == off && tiles r (off + c.2.1) tot

/-- Types that are made of numbers, truth values, texts, slices, structs and arrays of one another. -/
def tyOk (P : Program) (T : List TypeId) : Bool := T.all fun t => match P.underlying t with
  | some .bool => true
  | some (.int _) => true
  | some .string => true
  | some (.slice e) => T.contains e && decide (0 < P.cellsOf e)
  | some (.struct _) => tiles (chunks P t) 0 (P.cellsOf t) && (chunks P t).all fun c => T.contains c.2.2
  | some (.array _ _) => tiles (chunks P t) 0 (P.cellsOf t) && (chunks P t).all fun c => T.contains c.2.2
  | _ => false

/-- Cells that are of a type. -/
def TypC (P : Program) : Nat → TypeId → List C → Prop
  | 0, _, _ => False
  | n + 1, t, es => match P.underlying t with
    | some .bool => ∃ b, es = [.sc (.bool b)]
    | some (.int k) => ∃ i, es = [.sc (.int k i)] ∧ (Lit.int k i).wf = true
    | some .string => ∃ s : ByteArray, es = [.sc (.string s)] ∧ s.size ≤ maxLen
    | some (.slice e) => ∃ l : List (List C), es = [.sl l] ∧ ∀ x ∈ l, x.length = P.cellsOf e ∧ TypC P n e x
    | some (.struct _) => es.length = P.cellsOf t ∧ ∀ c ∈ chunks P t, TypC P n c.2.2 ((es.drop c.1).take c.2.1)
    | some (.array _ _) => es.length = P.cellsOf t ∧ ∀ c ∈ chunks P t, TypC P n c.2.2 ((es.drop c.1).take c.2.1)
    | _ => False

def allOld (w : World) : Nat → Nat → Prop := fun b _ => b < w.heap.size

def RepL (w : World) (es : List C) (vs : List Value) : Prop := es.length = vs.length ∧ ∀ (j : Nat) (c : C) (v : Value), es[j]? = some c → vs[j]? = some v → Rep w (allOld w) c v

theorem repL_one {w : World} {c : C} {v : Value} (h : Rep w (allOld w) c v) : RepL w [c] [v] := ⟨rfl, fun j c' v' h1 h2 => by
  cases j with
  | zero => simp at h1 h2; subst h1 h2; exact h
  | succ j => simp at h1⟩

theorem cell_lt {w : World} {a : Addr} {v : Value} (h : w.cell? a = some v) : a.block < w.heap.size ∧ a.spot = none := by
  unfold World.cell? at h
  split at h
  · rename_i c t f hb
    refine ⟨(Array.getElem?_eq_some_iff.1 hb).1, ?_⟩
    split at h
    · simp at h
    · rename_i hs; simpa using hs
  · simp at h

/-! ### Bulk -/
mutual
def bulkD {H : Type} : DataW H → Nat
  | .lit (.string bytes) => bytes.length + 1
  | .lit _ => 1
  | .nil => 1
  | .ptr d => bulkD d + 1
  | .slice elems spare => bulkDs elems + bulkDs spare + 1
  | .agg parts => bulkDs parts + 1
  | .iface _ d => bulkD d + 1
  | .map entries => bulkEs entries + 1
  | .held _ => 1
def bulkDs {H : Type} : List (DataW H) → Nat
  | [] => 0
  | d :: r => bulkD d + bulkDs r
def bulkEs {H : Type} : List (Lit × DataW H) → Nat
  | [] => 0
  | x :: r => bulkE x + bulkEs r
def bulkE {H : Type} : Lit × DataW H → Nat
  | (.string bytes, d) => bytes.length + bulkD d + 1
  | (_, d) => bulkD d + 1
end
mutual
/-- How much a cell holds. -/
def cB : C → Nat
  | .sc (.string s) => s.size + 1
  | .sc _ => 1
  | .sl l => cBLL l + 1
def cBL : List C → Nat
  | [] => 0
  | c :: r => cB c + cBL r
def cBLL : List (List C) → Nat
  | [] => 0
  | e :: r => cBL e + cBLL r
end
theorem cBL_append (a b : List C) : cBL (a ++ b) = cBL a + cBL b := by
  induction a with
  | nil => simp [cBL]
  | cons c a ih => simp only [List.cons_append, cBL, ih]; omega
theorem bulkDs_mem {H : Type} {d : DataW H} : ∀ {l : List (DataW H)}, d ∈ l → bulkD d ≤ bulkDs l
  | x :: r, h => by
    simp only [bulkDs]
    rcases List.mem_cons.1 h with rfl | h
    · omega
    · have := bulkDs_mem h; omega
theorem bulkD_pos {H : Type} (d : DataW H) : 1 ≤ bulkD d := by
  cases d with
  | lit l => cases l <;> simp [bulkD]
  | _ => simp [bulkD]
theorem cBLL_le {H : Type} : ∀ {l : List (List C)} {ds : List (DataW H)}, l.length = ds.length → (∀ (i : Nat) (e : List C) (d : DataW H), l[i]? = some e → ds[i]? = some d → cBL e ≤ bulkD d) → cBLL l ≤ bulkDs ds
  | [], _, _, _ => by simp [cBLL]
  | e :: l, [], hl, _ => by simp at hl
  | e :: l, d :: ds, hl, h => by
    have h1 := h 0 e d rfl rfl
    have h2 := cBLL_le (l := l) (ds := ds) (by simpa using hl) fun i e d h3 h4 => h (i + 1) e d (by simpa using h3) (by simpa using h4)
    simp only [cBLL, bulkDs]
    omega

theorem chunks_build {H : Type} {P : Program} {w : World} {n : Nat} {cs : List Value} : ∀ (l : List (Nat × Nat × TypeId)) (off : Nat), tiles l off cs.length = true →
    ∀ (ds : List (DataW H)), l.length = ds.length → (∀ (i : Nat) (c : Nat × Nat × TypeId) (d : DataW H), l[i]? = some c → ds[i]? = some d → ∃ es, RepL w es ((cs.drop c.1).take c.2.1) ∧ TypC P n c.2.2 es ∧ cBL es ≤ bulkD d) → off ≤ cs.length →
    ∃ es, RepL w es (cs.drop off) ∧ (∀ c ∈ l, off ≤ c.1 ∧ TypC P n c.2.2 ((es.drop (c.1 - off)).take c.2.1)) ∧ cBL es ≤ bulkDs ds
  | [], off, ht, ds, _, _, hle => by
    simp only [tiles, beq_iff_eq] at ht
    refine ⟨[], ⟨by simp [ht], fun j c v h => by simp at h⟩, fun c h => by simp at h, by simp [cBL]⟩
  | c :: l, off, ht, [], hl, hall, hle => by simp at hl
  | c :: l, off, ht, d :: ds, hl, hall, hle => by
    simp only [tiles, Bool.and_eq_true, beq_iff_eq] at ht
    obtain ⟨h1, h2⟩ := ht
    have hge : ∀ (l : List (Nat × Nat × TypeId)) (o tot : Nat), tiles l o tot = true → o ≤ tot := by
      intro l
      induction l with
      | nil => intro o tot h; simp only [tiles, beq_iff_eq] at h; omega
      | cons c l ih =>
        intro o tot h
        simp only [tiles, Bool.and_eq_true] at h
        have := ih _ _ h.2
        omega
    have hle2 := hge _ _ _ h2
    obtain ⟨es1, ⟨k1, k2⟩, k3, k4⟩ := hall 0 c d rfl rfl
    obtain ⟨es2, ⟨m1, m2⟩, m3, m4⟩ := chunks_build l (off + c.2.1) h2 ds (by simpa using hl) (fun i c' d' hc' hd' => hall (i + 1) c' d' (by simpa using hc') (by simpa using hd')) hle2
    rw [h1] at k1 k2
    have hl1 : es1.length = c.2.1 := by rw [k1]; simp; omega
    refine ⟨es1 ++ es2, ⟨by simp [hl1, m1]; omega, fun j e v he hv => ?_⟩, fun c' hc' => ?_, by rw [cBL_append, bulkDs]; omega⟩
    · rw [List.getElem?_append] at he
      split at he
      · rename_i hj
        refine k2 j e v he ?_
        rw [List.getElem?_take, if_pos (by omega)]
        exact hv
      · rename_i hj
        refine m2 _ e v he ?_
        rw [List.getElem?_drop] at hv ⊢
        rw [← hv]
        congr 1
        omega
    · rcases List.mem_cons.1 hc' with rfl | hc'
      · refine ⟨by omega, ?_⟩
        have : c'.1 - off = 0 := by omega
        rw [this, List.drop_zero, List.take_append_of_le_length (by omega), List.take_of_length_le (by omega)]
        exact k3
      · obtain ⟨q1, q2⟩ := m3 c' hc'
        refine ⟨by omega, ?_⟩
        rw [List.drop_append, List.drop_of_length_le (by omega), List.nil_append, hl1]
        have : c'.1 - off - c.2.1 = c'.1 - (off + c.2.1) := by omega
        rw [this]
        exact q2

theorem trod_rep {H : Type} {enc : TypeId × Value → H} {P : Program} {w : World} {spare : Nat → Bool} {held : Bool} {T : List TypeId} (hT : tyOk P T = true) : ∀ (n : Nat) {t : TypeId} {cs : List Value} {d : DataW H} {ps : List MemPlace}, t ∈ T →
    DataW.trod enc P w 0 spare held n t cs = some (d, ps) → ∃ es, RepL w es cs ∧ TypC P n t es ∧ cBL es ≤ bulkD d
  | 0, t, cs, d, ps, _, h => by simp [DataW.trod] at h
  | n + 1, t, cs, d, ps, ht, h => by
    have hty := List.all_eq_true.1 hT t ht
    unfold DataW.trod at h
    simp only [TypC]
    cases hu : P.underlying t with
    | none => rw [hu] at hty; simp at hty
    | some desc =>
      rw [hu] at hty h
      cases desc <;> simp only at hty <;> first
        | (simp at hty; done)
        | skip
      case bool =>
        rcases cs with _ | ⟨v, _ | ⟨v2, cs⟩⟩ <;> try (simp at h; done)
        cases v <;> simp at h
        rename_i b
        obtain ⟨rfl, _⟩ := h
        exact ⟨[.sc (.bool b)], repL_one (.sc _ rfl), ⟨b, rfl⟩, by simp [cBL, cB, bulkD]⟩
      case int k =>
        rcases cs with _ | ⟨v, _ | ⟨v2, cs⟩⟩ <;> try (simp at h; done)
        cases v <;> simp at h
        rename_i k2 i
        obtain ⟨⟨rfl, hw⟩, rfl, _⟩ := h
        exact ⟨[.sc (.int k2 i)], repL_one (.sc _ rfl), ⟨i, rfl, hw⟩, by simp [cBL, cB, bulkD]⟩
      case string =>
        rcases cs with _ | ⟨v, _ | ⟨v2, cs⟩⟩ <;> try (simp at h; done)
        cases v <;> simp at h
        rename_i s
        obtain ⟨hs, rfl, _⟩ := h
        exact ⟨[.sc (.string s)], repL_one (.sc _ rfl), ⟨s, rfl, hs⟩, by simp only [cBL, cB, bulkD]; rw [Array.length_toList]; exact Nat.le_refl _⟩
      case slice e =>
        simp only [Bool.and_eq_true, decide_eq_true_eq, List.contains_iff_mem] at hty
        obtain ⟨he, hpos⟩ := hty
        rcases cs with _ | ⟨v, _ | ⟨v2, cs⟩⟩ <;> try (simp at h; done)
        cases v <;> try (simp at h; done)
        rename_i base len cap
        cases base with
        | none =>
          have : len = 0 ∧ cap = 0 := by
            cases len <;> cases cap <;> simp at h <;> simp
          obtain ⟨rfl, rfl⟩ := this
          exact ⟨[.sl []], repL_one (.nil none 0 fun _ => rfl), ⟨[], rfl, fun x hx => by simp at hx⟩, by have := bulkD_pos d; simp only [cBL, cB, cBLL]; omega⟩
        | some a =>
          simp only at h
          split at h
          · rename_i hc
            obtain ⟨elems, h1, h2⟩ := Option.bind_eq_some_iff.1 h
            obtain ⟨rest, _, h2'⟩ := Option.map_eq_some_iff.1 h2
            simp only [Prod.mk.injEq] at h2'
            obtain ⟨hd, _⟩ := h2'
            obtain ⟨h3, h4⟩ := mapM_some h1
            have key : ∀ i, i < len → ∃ vs es, w.cells? 0 (a.add (i * P.cellsOf e)) (P.cellsOf e) = some vs ∧ RepL w es vs ∧ TypC P n e es ∧ ∀ y, elems[i]? = some y → cBL es ≤ bulkD y.1 := fun i hi => by
              obtain ⟨y, h5, h5'⟩ := h4 i i (by simp [hi])
              obtain ⟨vs, h6, h7⟩ := Option.bind_eq_some_iff.1 h5
              obtain ⟨es, h8, h9, h10⟩ := trod_rep hT n he (show DataW.trod enc P w 0 spare held n e vs = some (y.1, y.2) from h7)
              exact ⟨vs, es, h6, h8, h9, fun z hz => by rw [h5'] at hz; injection hz with hz; subst hz; exact h10⟩
            have key2 : ∀ i, ∃ es : List C, i < len → ∃ vs, w.cells? 0 (a.add (i * P.cellsOf e)) (P.cellsOf e) = some vs ∧ RepL w es vs ∧ TypC P n e es ∧ ∀ y, elems[i]? = some y → cBL es ≤ bulkD y.1 := fun i => by
              by_cases hi : i < len
              · obtain ⟨vs, es, k1, k2, k3, k4⟩ := key i hi
                exact ⟨es, fun _ => ⟨vs, k1, k2, k3, k4⟩⟩
              · exact ⟨[], fun h => absurd h hi⟩
            let f : Nat → List C := fun i => Classical.choose (key2 i)
            have hf4 : ∀ i, i < len → ∃ vs, w.cells? 0 (a.add (i * P.cellsOf e)) (P.cellsOf e) = some vs ∧ RepL w (f i) vs ∧ TypC P n e (f i) ∧ ∀ y, elems[i]? = some y → cBL (f i) ≤ bulkD y.1 := fun i hi => Classical.choose_spec (key2 i) hi
            have hf : ∀ i, i < len → ∃ vs, w.cells? 0 (a.add (i * P.cellsOf e)) (P.cellsOf e) = some vs ∧ RepL w (f i) vs ∧ TypC P n e (f i) := fun i hi => by
              obtain ⟨vs, k1, k2, k3, _⟩ := hf4 i hi
              exact ⟨vs, k1, k2, k3⟩
            have hbulk : cBL [C.sl ((List.range len).map f)] ≤ bulkD d := by
              rw [← hd]
              have : cBLL ((List.range len).map f) ≤ bulkDs (elems.map (·.1)) := cBLL_le (by simpa using h3.symm) fun i x y hx hy => by
                rw [List.getElem?_map, Option.map_eq_some_iff] at hx hy
                obtain ⟨i', hi', rfl⟩ := hx
                obtain ⟨y0, hy0, rfl⟩ := hy
                obtain ⟨hlt, rfl⟩ := List.getElem?_eq_some_iff.1 hi'
                simp only [List.length_range] at hlt
                obtain ⟨_, _, _, _, k4⟩ := hf4 i hlt
                simp only [List.getElem_range]
                exact k4 y0 hy0
              simp only [cBL, cB, bulkD]
              omega
            have hcells : ∀ i vs, w.cells? 0 (a.add (i * P.cellsOf e)) (P.cellsOf e) = some vs → vs.length = P.cellsOf e ∧ ∀ k, k < P.cellsOf e → ∃ v, vs[k]? = some v ∧ w.cell? ((a.add (i * P.cellsOf e)).add k) = some v := fun i vs hvs => by
              unfold World.cells? at hvs
              rw [if_pos (Nat.zero_le _)] at hvs
              obtain ⟨m1, m2⟩ := mapM_some hvs
              refine ⟨by simpa using m1, fun k hk => ?_⟩
              obtain ⟨v, m3, m4⟩ := m2 k k (by simp [hk])
              exact ⟨v, m4, m3⟩
            have hflen : ∀ i, i < len → (f i).length = P.cellsOf e := fun i hi => by
              obtain ⟨vs, k1, k2, _⟩ := hf i hi
              rw [k2.1, (hcells i vs k1).1]
            refine ⟨[.sl ((List.range len).map f)], repL_one ?_, ⟨(List.range len).map f, rfl, fun x hx => ?_⟩, hbulk⟩
            · by_cases h0 : len = 0
              · subst h0
                exact .nil _ _ (by simp)
              · have hspot : a.spot = none := by
                  obtain ⟨vs, k1, _, _⟩ := hf 0 (by omega)
                  obtain ⟨v, _, k3⟩ := (hcells 0 vs k1).2 0 hpos
                  have := (cell_lt k3).2
                  simpa [Addr.add] using this
                obtain ⟨b, o, sp⟩ := a
                simp only at hspot
                subst hspot
                have hlen : ((List.range len).map f).length = len := by simp
                have hcell : ∀ i k, i < len → k < P.cellsOf e → ∃ v, w.cell? ⟨b, o + (i * P.cellsOf e + k), none⟩ = some v ∧ ∀ c, (f i)[k]? = some c → Rep w (allOld w) c v := fun i k hi hk => by
                  obtain ⟨vs, k1, k2, _⟩ := hf i hi
                  obtain ⟨v, k3, k4⟩ := (hcells i vs k1).2 k hk
                  refine ⟨v, ?_, fun c hc => k2.2 k c v hc k3⟩
                  rw [← k4]
                  congr 1
                  simp only [Addr.add]
                  split <;> split <;> simp_all <;> omega
                have hdiv : ∀ j, j < len * P.cellsOf e → j / P.cellsOf e < len ∧ j % P.cellsOf e < P.cellsOf e ∧ j / P.cellsOf e * P.cellsOf e + j % P.cellsOf e = j := fun j hj => ⟨Nat.div_lt_of_lt_mul (by rwa [Nat.mul_comm]), Nat.mod_lt _ hpos, Nat.div_add_mod' _ _⟩
                have : Rep w (allOld w) (.sl ((List.range len).map f)) (.slice (some ⟨b, o, none⟩) ((List.range len).map f).length cap) := by
                  refine .sl _ (P.cellsOf e) b o cap (fun j => (w.cell? ⟨b, o + j, none⟩).getD undef) ?_ ?_ ?_ ?_ ?_
                  · intro hn
                    have := congrArg List.length hn
                    simp at this
                    exact h0 this
                  · intro x hx
                    obtain ⟨i, hi, rfl⟩ := List.mem_map.1 hx
                    exact hflen i (List.mem_range.1 hi)
                  · rw [hlen]; exact hc.2.1
                  · intro j hj
                    rw [hlen] at hj
                    obtain ⟨d1, d2, d3⟩ := hdiv j hj
                    obtain ⟨v, k1, _⟩ := hcell _ _ d1 d2
                    rw [d3] at k1
                    rw [k1]
                    exact ⟨(cell_lt k1).1, rfl⟩
                  · intro i k x c hi hk
                    rw [List.getElem?_map, Option.map_eq_some_iff] at hi
                    obtain ⟨i', hi', rfl⟩ := hi
                    obtain ⟨hlt, rfl⟩ := List.getElem?_eq_some_iff.1 hi'
                    simp only [List.length_range] at hlt
                    simp only [List.getElem_range] at hk
                    have hk2 : k < P.cellsOf e := by
                      rw [← hflen i hlt]
                      exact (List.getElem?_eq_some_iff.1 hk).1
                    obtain ⟨v, k1, k2⟩ := hcell i k hlt hk2
                    rw [k1]
                    exact k2 c hk
                rwa [hlen] at this
            · obtain ⟨i, hi, rfl⟩ := List.mem_map.1 hx
              have hi := List.mem_range.1 hi
              obtain ⟨vs, _, _, k3⟩ := hf i hi
              exact ⟨hflen i hi, k3⟩
          · simp at h
      case struct fs =>
        simp only [Bool.and_eq_true, List.all_eq_true, List.contains_iff_mem] at hty
        obtain ⟨h1, h2⟩ := hty
        simp only at h
        split at h
        · rename_i hlen
          obtain ⟨xs, h3, h3'⟩ := Option.map_eq_some_iff.1 h
          simp only [Prod.mk.injEq] at h3'
          obtain ⟨hd, _⟩ := h3'
          obtain ⟨h4, h5⟩ := mapM_some h3
          rw [← hlen] at h1
          obtain ⟨es, ⟨k1, k2⟩, k3, k4⟩ := chunks_build (P := P) (w := w) (n := n) (cs := cs) (chunks P t) 0 h1 (xs.map (·.1)) (by simp [chunks, hu, h4]) (fun i c y hc hy => by
            have hc0 := List.mem_of_getElem? hc
            simp only [chunks, hu, List.getElem?_map, Option.map_eq_some_iff] at hc hy
            obtain ⟨f, hf, rfl⟩ := hc
            obtain ⟨z, hz, rfl⟩ := hy
            obtain ⟨y', h6, h6'⟩ := h5 i f hf
            rw [h6'] at hz
            injection hz with hz
            subst hz
            exact trod_rep hT n (h2 _ hc0) (show DataW.trod enc P w 0 spare held n f.type _ = some (y'.1, y'.2) from h6)) (Nat.zero_le _)
          refine ⟨es, ⟨by simpa using k1, by simpa using k2⟩, ⟨by rw [k1]; simpa using hlen, fun c hc => ?_⟩, ?_⟩
          · simpa using (k3 c hc).2
          · rw [← hd]
            simp only [bulkD]
            omega
        · simp at h
      case array m e =>
        simp only [Bool.and_eq_true, List.all_eq_true, List.contains_iff_mem] at hty
        obtain ⟨h1, h2⟩ := hty
        simp only at h
        split at h
        · rename_i hlen
          obtain ⟨xs, h3, h3'⟩ := Option.map_eq_some_iff.1 h
          simp only [Prod.mk.injEq] at h3'
          obtain ⟨hd, _⟩ := h3'
          obtain ⟨h4, h5⟩ := mapM_some h3
          rw [← hlen] at h1
          obtain ⟨es, ⟨k1, k2⟩, k3, k4⟩ := chunks_build (P := P) (w := w) (n := n) (cs := cs) (chunks P t) 0 h1 (xs.map (·.1)) (by simp [chunks, hu, h4]) (fun i c y hc hy => by
            have hc0 := List.mem_of_getElem? hc
            simp only [chunks, hu, List.getElem?_map, Option.map_eq_some_iff] at hc hy
            obtain ⟨f, hf, rfl⟩ := hc
            obtain ⟨z, hz, rfl⟩ := hy
            obtain ⟨y', h6, h6'⟩ := h5 i f hf
            rw [h6'] at hz
            injection hz with hz
            subst hz
            obtain ⟨hfl, rfl⟩ := List.getElem?_eq_some_iff.1 hf
            simp only [List.getElem_range] at h6 hc0 ⊢
            exact trod_rep hT n (h2 _ hc0) (show DataW.trod enc P w 0 spare held n e _ = some (y'.1, y'.2) from h6)) (Nat.zero_le _)
          refine ⟨es, ⟨by simpa using k1, by simpa using k2⟩, ⟨by rw [k1]; simpa using hlen, fun c hc => ?_⟩, ?_⟩
          · simpa using (k3 c hc).2
          · rw [← hd]
            simp only [bulkD]
            omega
        · simp at h

/-! ### Arguments -/
def av1 : List C → AV
  | [c] => ofC true c
  | _ => .undef
/-- A value of a type, by its cells. -/
def avOf (P : Program) (t : TypeId) (es : List C) : AV := match P.underlying t with
  | some (.struct _) => .agg (es.map (ofC true))
  | some (.array _ _) => .agg (es.map (ofC true))
  | _ => av1 es

def cx0 (w : World) : Cx := ⟨w, allOld w, fun _ => 0, fun _ => 0, w.heap.size⟩

theorem rep_old {w : World} {c : C} {v : Value} (h : Rep w (allOld w) c v) : Rep (cx0 w).w ((cx0 w).sh true) c v := h.mono fun b o hS => ⟨⟨hS, .inl rfl⟩, rfl⟩

theorem arg_rel {P : Program} {w : World} {r : Reach} {base : Nat} {T : List TypeId} (hT : tyOk P T = true) {t : TypeId} {v : Value} {es : List C} (ht : t ∈ T) (hok : Value.okWide P w r base t v) (hr : RepL w es v.cells.toList) : RelV (cx0 w) [] (avOf P t es) v := by
  have hty := List.all_eq_true.1 hT t ht
  unfold Value.okWide at hok
  unfold avOf
  have scal : (∀ cs, v ≠ .agg cs) → RelV (cx0 w) [] (av1 es) v := fun hn => by
    have hv : v.cells.toList = [v] := by
      cases v <;> first
        | rfl
        | exact absurd rfl (hn _)
    rw [hv] at hr
    obtain ⟨h1, h2⟩ := hr
    match es, h1 with
    | [c], _ => exact (rep_old (h2 0 c v rfl rfl)).ofC
  have agg : ∀ cs, v = .agg cs → RelV (cx0 w) [] (.agg (es.map (ofC true))) v := fun cs hv => by
    subst hv
    obtain ⟨h1, h2⟩ := hr
    have : (Value.agg cs) = .agg cs.toList.toArray := by simp
    rw [this]
    refine .agg _ _ (by simpa [Value.cells] using h1) fun i b u h3 h4 => ?_
    rw [List.getElem?_map, Option.map_eq_some_iff] at h3
    obtain ⟨c, h5, rfl⟩ := h3
    exact (rep_old (h2 i c u h5 h4)).ofC
  cases hu : P.underlying t with
  | none => rw [hu] at hty; simp at hty
  | some desc =>
    rw [hu] at hty hok
    have nok : ∀ cs, v = .agg cs → (∀ fs, desc ≠ .struct fs) → (∀ n e, desc ≠ .array n e) → Cell.okWide P w r base t v → False := fun cs hc h1 h2 h3 => by
      subst hc
      unfold Cell.okWide Cell.ok at h3
      rw [hu] at h3
      cases desc <;> simp at h3 h1 h2
    cases desc <;> first
      | (simp at hty; done)
      | (obtain ⟨cs, hc, _⟩ := hok; exact agg cs hc)
      | exact scal fun cs hc => nok cs hc (fun _ h => by cases h) (fun _ _ h => by cases h) hok

theorem avOf_refs (P : Program) (t : TypeId) (es : List C) : (avOf P t es).refs = [] := by
  unfold avOf
  split
  · simp only [AV.refs]; exact refsL_nil fun a ha => by obtain ⟨c, _, rfl⟩ := List.mem_map.1 ha; exact refs_ofC _ _
  · simp only [AV.refs]; exact refsL_nil fun a ha => by obtain ⟨c, _, rfl⟩ := List.mem_map.1 ha; exact refs_ofC _ _
  · unfold av1
    split
    · exact refs_ofC _ _
    · rfl

def argsOf (P : Program) : List TypeId → List (List C) → List AV
  | t :: ts, es :: ess => avOf P t es :: argsOf P ts ess
  | _, _ => []

theorem args_in {H : Type} {enc : TypeId × Value → H} {P : Program} {w : World} {spare : Nat → Bool} {held : Bool} {r : Reach} {base : Nat} {T : List TypeId} (hT : tyOk P T = true) : ∀ {ts : List TypeId} {vs : List Value} {ds : List (DataW H)} {ps : List MemPlace}, (∀ t ∈ ts, t ∈ T) →
    DataW.TrodAll enc P w 0 spare held ts vs ds ps → (∀ (j : Nat) (t : TypeId) (v : Value), ts[j]? = some t → vs[j]? = some v → Value.okWide P w r base t v) →
    ∃ ess : List (List C), ess.length = ts.length ∧ cBLL ess ≤ bulkDs ds ∧ (∀ (j : Nat) (t : TypeId) (es : List C), ts[j]? = some t → ess[j]? = some es → ∃ n, TypC P n t es) ∧
      (argsOf P ts ess).length = vs.length ∧ (∀ (j : Nat) (b : AV) (v : Value), (argsOf P ts ess)[j]? = some b → vs[j]? = some v → RelV (cx0 w) [] b v) ∧ refsL (argsOf P ts ess) = []
  | [], [], [], ps, _, _, _ => ⟨[], rfl, by simp [cBLL], fun j t es h => by simp at h, rfl, fun j b v h => by simp [argsOf] at h, rfl⟩
  | [], [], _ :: _, _, _, h, _ => by simp [DataW.TrodAll] at h
  | [], _ :: _, _, _, _, h, _ => by simp [DataW.TrodAll] at h
  | _ :: _, [], _, _, _, h, _ => by simp [DataW.TrodAll] at h
  | _ :: _, _ :: _, [], _, _, h, _ => by simp [DataW.TrodAll] at h
  | t :: ts, v :: vs, d :: ds, ps, ht, h, hok => by
    obtain ⟨p, q, ⟨n, h1⟩, h2, _⟩ := h
    obtain ⟨es, k1, k2, k3⟩ := trod_rep hT n (ht t (by simp)) h1
    obtain ⟨ess, a1, a2, a3, a4, a5, a6⟩ := args_in hT (fun t' ht' => ht t' (by simp [ht'])) h2 fun j t' v' h3 h4 => hok (j + 1) t' v' (by simpa using h3) (by simpa using h4)
    refine ⟨es :: ess, by simp [a1], by simp only [cBLL, bulkDs]; omega, fun j t' es' h3 h4 => ?_, by simp [argsOf, a4], fun j b u h3 h4 => ?_, by simp [argsOf, refsL, avOf_refs, a6]⟩
    · cases j with
      | zero =>
        simp at h3 h4
        subst h3 h4
        exact ⟨n, k2⟩
      | succ j => exact a3 j t' es' (by simpa using h3) (by simpa using h4)
    · cases j with
      | zero =>
        simp [argsOf] at h3 h4
        subst h3 h4
        exact arg_rel hT (ht t (by simp)) (hok 0 t v rfl rfl) k1
      | succ j => exact a5 j b u (by simpa [argsOf] using h3) (by simpa using h4)

theorem inv0 {G : Cf} (hG : ∀ g, G.G g = []) (w : World) : Inv G (cx0 w) [] where
  obj := fun id o h => by simp [getO] at h
  inj := fun i j oi oj h => by simp [getO] at h
  own := fun id o h => by simp [getO] at h
  sh := fun b o h => h
  live := fun id o h => by simp [getO] at h
  glob := fun g j c h => by rw [hG] at h; simp at h

/-- A law, whose arguments are what came in. -/
theorem law_calls {P : Program} {G : Cf} {tab : Nat → Option Fn} (ht : TabOk P tab) (hG : ∀ g, G.G g = []) {f : Nat} (hf : real f = f) {args : List AV} {outs : List Obj} {w : World} {vals : List Value} (he : Ev tab G f args [] = some ([.s (.bool true)], outs))
    (hl : args.length = vals.length) (hr : ∀ (j : Nat) (b : AV) (v : Value), args[j]? = some b → vals[j]? = some v → RelV (cx0 w) [] b v) (hn : refsL args = []) :
    Calls P f vals.toArray w fun e w' => e = .returned (.bool true) ∧ Below w.heap.size w w' := by
  have hc := Ev_ok ht (fun _ => hG) he (cx0 w) vals rfl (inv0 hG w) hl hr fun id hid => by rw [hn] at hid; simp at hid
  rw [hf] at hc
  refine hc.mono fun e w' ⟨us, h1, x', h2, post⟩ => ?_
  have hlen := post.len
  match us, hlen with
  | [u], _ =>
    have := (post.rel 0 _ u rfl rfl).s_inv
    subst this
    refine ⟨h1, ?_⟩
    subst h2
    exact ⟨post.step.os, post.step.tape, post.step.output, post.step.size, fun k hk => post.step.frame k hk fun id o h => by simp [getO] at h⟩

end Go.Ev
