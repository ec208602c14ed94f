/-
  Taking out; what is there.
-/
import Derived.Test.YtfihodpdjpcpfaaLAvl4
set_option linter.unusedSimpArgs false
set_option linter.unusedVariables false
set_option maxRecDepth 200000
set_option maxHeartbeats 4000000
namespace Go.Proofs.Ytfihodpdjpcpfaa
open Go.Ev

abbrev KV := List UInt8 × List UInt8
/-- Are pairs in order? -/
def srtP (l : List KV) : Prop := l.Pairwise fun x y => cmp x.1 y.1 < 0
def B.isN : B → Bool
  | .n => true
  | _ => false
def B.least : B → KV
  | .n => ([], [])
  | .d l k v _ => if l.isN = true then (k, v) else l.least
def B.take : B → List UInt8 → B
  | .n, _ => .n
  | .d l a b r, k => if cmp k a < 0 then lev (l.take k) a b r else if 0 < cmp k a then lev l a b (r.take k) else if l.isN = true then r else if r.isN = true then l else lev l r.least.1 r.least.2 (r.take r.least.1)
theorem isN_eq {b : B} (h : b.isN = true) : b = .n := by cases b <;> simp [B.isN] at h; rfl
theorem isN_ne {b : B} (h : ¬ b.isN = true) : ∃ l k v r, b = .d l k v r := by
  cases b with
  | n => simp [B.isN] at h
  | d l k v r => exact ⟨l, k, v, r, rfl⟩
/-- A tree's size, by its pairs. -/
def sumP : List KV → Nat
  | [] => 0
  | x :: l => x.1.length + x.2.length + 2 + sumP l
theorem sumP_app (a b : List KV) : sumP (a ++ b) = sumP a + sumP b := by
  induction a with
  | nil => simp [sumP]
  | cons x a ih => simp only [List.cons_append, sumP, ih]; omega
theorem size_sum : ∀ b : B, b.t.size = 1 + sumP b.list
  | .n => rfl
  | .d l k v r => by
    rw [Bt_size, size_sum l, size_sum r]
    simp only [B.list, sumP_app, sumP]
    omega
theorem sumP_filter (p : KV → Bool) : ∀ l : List KV, sumP (l.filter p) ≤ sumP l
  | [] => Nat.le_refl _
  | x :: l => by
    have := sumP_filter p l
    rw [List.filter_cons]
    split <;> simp only [sumP] <;> omega
theorem srt_d {l r : B} {k v : List UInt8} (h : srtP (B.d l k v r).list) : srtP l.list ∧ srtP r.list ∧ (∀ x ∈ l.list, cmp x.1 k < 0) ∧ (∀ x ∈ r.list, cmp k x.1 < 0) := by
  unfold srtP at *
  simp only [B.list, List.pairwise_append, List.pairwise_cons, List.mem_cons] at h
  obtain ⟨h1, ⟨h2, h3⟩, h4⟩ := h
  exact ⟨h1, h3, fun x hx => h4 x hx (k, v) (.inl rfl), fun x hx => h2 x hx⟩
theorem least_list : ∀ b : B, b.isN = false → ∃ q, b.list = b.least :: q
  | .n, h => by simp [B.isN] at h
  | .d l k v r, _ => by
    by_cases c : l.isN = true
    · have := isN_eq c
      subst this
      exact ⟨r.list, by simp [B.list, B.least, B.isN]⟩
    · obtain ⟨q, hq⟩ := least_list l (by simpa using c)
      refine ⟨q ++ (k, v) :: r.list, ?_⟩
      simp only [B.list, B.least, c, if_false, hq, List.cons_append]
      simp
theorem filter_all {p : KV → Bool} {l : List KV} (h : ∀ x ∈ l, p x = true) : l.filter p = l := List.filter_eq_self.2 h
theorem take_list : ∀ (b : B) (k : List UInt8), srtP b.list → (b.take k).list = b.list.filter fun x => !decide (cmp x.1 k = 0)
  | .n, k, _ => rfl
  | .d l a b r, k, h => by
    obtain ⟨h1, h2, h3, h4⟩ := srt_d h
    have i1 := take_list l k h1
    have i2 := take_list r k h2
    have sw := cmp_swap k a
    have hr : cmp k a ≤ 0 → ∀ x ∈ r.list, (!decide (cmp x.1 k = 0)) = true := fun hc x hx => by
      have := h4 x hx
      have s2 := cmp_swap x.1 k
      have := cmp_trans k a x.1 hc (by omega)
      simp only [Bool.not_eq_true', decide_eq_false_iff_not]
      omega
    have hl : 0 ≤ cmp k a → ∀ x ∈ l.list, (!decide (cmp x.1 k = 0)) = true := fun hc x hx => by
      have := h3 x hx
      have := cmp_trans x.1 a k (by omega) (by omega)
      simp only [Bool.not_eq_true', decide_eq_false_iff_not]
      omega
    simp only [B.take, B.list, List.filter_append, List.filter_cons]
    by_cases c1 : cmp k a < 0
    · rw [if_pos c1, lev_list, i1, filter_all (hr (by omega)), if_pos (by simp; omega)]
    · rw [if_neg c1]
      by_cases c2 : 0 < cmp k a
      · rw [if_pos c2, lev_list, i2, filter_all (hl (by omega)), if_pos (by simp; omega)]
      · have e : decide (cmp a k = 0) = true := decide_eq_true (by omega)
        rw [if_neg c2, filter_all (hl (by omega)), filter_all (hr (by omega)), e]
        simp only [Bool.not_true, Bool.false_eq_true, if_false]
        by_cases c3 : l.isN = true
        · rw [if_pos c3]
          have := isN_eq c3
          subst this
          simp [B.list]
        · rw [if_neg c3]
          by_cases c4 : r.isN = true
          · rw [if_pos c4]
            have := isN_eq c4
            subst this
            simp [B.list]
          · rw [if_neg c4, lev_list, take_list r r.least.1 h2]
            obtain ⟨q, hq⟩ := least_list r (by simpa using c4)
            have hs := h2
            rw [hq] at hs
            unfold srtP at hs
            rw [List.pairwise_cons] at hs
            congr 1
            rw [hq, List.filter_cons, if_neg (by simp [cmp_self])]
            congr 1
            exact filter_all fun x hx => by
              have := hs.1 x hx
              have s2 := cmp_swap x.1 r.least.1
              simp only [Bool.not_eq_true', decide_eq_false_iff_not]
              omega
theorem take_size (b : B) (k : List UInt8) (h : srtP b.list) : (b.take k).t.size ≤ b.t.size := by
  rw [size_sum, size_sum, take_list b k h]
  exact Nat.add_le_add_left (sumP_filter _ _) _
/-- Keys and values short enough, by pairs. -/
theorem ok_list : ∀ b : B, b.ok = true ↔ ∀ x ∈ b.list, x.1.length ≤ 80 ∧ x.2.length ≤ 1024
  | .n => by simp [B.ok, B.list]
  | .d l k v r => by
    rw [ok_d, ok_list l, ok_list r]
    simp only [B.list, List.mem_append, List.mem_cons]
    constructor
    · rintro ⟨h1, h2, h3, h4⟩ x (hx | rfl | hx)
      · exact h1 x hx
      · exact ⟨h3, h4⟩
      · exact h2 x hx
    · intro h
      exact ⟨fun x hx => h x (.inl hx), fun x hx => h x (.inr (.inr hx)), (h (k, v) (.inr (.inl rfl))).1, (h (k, v) (.inr (.inl rfl))).2⟩
theorem take_ok (b : B) (k : List UInt8) (h : srtP b.list) (ho : b.ok = true) : (b.take k).ok = true := by
  rw [ok_list] at *
  rw [take_list b k h]
  exact fun x hx => ho x (List.mem_filter.1 hx).1
theorem take_srt (b : B) (k : List UInt8) (h : srtP b.list) : srtP (b.take k).list := by
  rw [take_list b k h]
  exact h.filter _
theorem take_bal : ∀ (b : B) (k : List UInt8), b.bal = true → (b.take k).bal = true ∧ b.depth - 1 ≤ (b.take k).depth ∧ (b.take k).depth ≤ b.depth
  | .n, k, _ => ⟨rfl, by simp [B.take, B.depth], by simp [B.take, B.depth]⟩
  | .d l a b r, k, h => by
    rw [bal_d] at h
    obtain ⟨h1, h2, h3, h4⟩ := h
    obtain ⟨i1, i2, i3⟩ := take_bal l k h1
    obtain ⟨j1, j2, j3⟩ := take_bal r k h2
    obtain ⟨q1, q2, q3⟩ := take_bal r r.least.1 h2
    have n1 := Bd_nn l
    have n2 := Bd_nn r
    simp only [B.take]
    split
    · obtain ⟨e1, e2, e3, e4⟩ := lev_bal (l.take k) a b r i1 h2 (by omega) (by omega)
      refine ⟨e1, ?_, ?_⟩ <;> simp only [B.depth] at *
      · omega
      · by_cases c : r.depth - (l.take k).depth ≤ 1
        · have := e4 (by omega) c; omega
        · omega
    · split
      · obtain ⟨e1, e2, e3, e4⟩ := lev_bal l a b (r.take k) h1 j1 (by omega) (by omega)
        refine ⟨e1, ?_, ?_⟩ <;> simp only [B.depth] at *
        · omega
        · by_cases c : l.depth - (r.take k).depth ≤ 1
          · have := e4 c (by omega); omega
          · omega
      · split
        · rename_i c
          have := isN_eq c
          subst this
          simp only [B.depth] at *
          exact ⟨h2, by omega, by omega⟩
        · split
          · rename_i c
            have := isN_eq c
            subst this
            simp only [B.depth] at *
            exact ⟨h1, by omega, by omega⟩
          · obtain ⟨e1, e2, e3, e4⟩ := lev_bal l r.least.1 r.least.2 (r.take r.least.1) h1 q1 (by omega) (by omega)
            refine ⟨e1, ?_, ?_⟩ <;> simp only [B.depth] at *
            · omega
            · by_cases c : l.depth - (r.take r.least.1).depth ≤ 1
              · have := e4 c (by omega); omega
              · omega
/-! ### What is there -/
def B.get : B → List UInt8 → Option (List UInt8)
  | .n, _ => none
  | .d l a b r, k => if cmp k a = 0 then some b else if cmp k a < 0 then l.get k else r.get k
def getP (l : List KV) (k : List UInt8) : Option (List UInt8) := (l.find? fun x => decide (cmp x.1 k = 0)).map (·.2)
theorem get_list : ∀ (b : B) (k : List UInt8), srtP b.list → b.get k = getP b.list k
  | .n, k, _ => rfl
  | .d l a b r, k, h => by
    obtain ⟨h1, h2, h3, h4⟩ := srt_d h
    have i1 := get_list l k h1
    have i2 := get_list r k h2
    have sw := cmp_swap k a
    have hr : cmp k a < 0 → r.list.find? (fun x => decide (cmp x.1 k = 0)) = none := fun hc => by
      rw [List.find?_eq_none]
      intro x hx
      have := h4 x hx
      have s2 := cmp_swap x.1 k
      have := cmp_trans k a x.1 (by omega) (by omega)
      simp only [decide_eq_true_eq]
      omega
    have hl : 0 ≤ cmp k a → l.list.find? (fun x => decide (cmp x.1 k = 0)) = none := fun hc => by
      rw [List.find?_eq_none]
      intro x hx
      have := h3 x hx
      have := cmp_trans x.1 a k (by omega) (by omega)
      simp only [decide_eq_true_eq]
      omega
    simp only [B.get, getP, B.list, List.find?_append, List.find?_cons] at *
    by_cases c1 : cmp k a = 0
    · have e : decide (cmp a k = 0) = true := decide_eq_true (by omega)
      rw [if_pos c1, hl (by omega), e]
      rfl
    · have e : decide (cmp a k = 0) = false := decide_eq_false (by omega)
      rw [if_neg c1, e]
      by_cases c2 : cmp k a < 0
      · rw [if_pos c2, i1, hr c2]
        simp
      · rw [if_neg c2, i2, hl (by omega)]
        simp
/-- Put in among pairs. -/
def insP (k v : List UInt8) : List KV → List KV
  | [] => [(k, v)]
  | (a, b) :: l => if cmp k a = 0 then (a, v) :: l else if cmp k a < 0 then (k, v) :: (a, b) :: l else (a, b) :: insP k v l
theorem insP_l (k v a b : List UInt8) (c : cmp k a < 0) (R : List KV) : ∀ L : List KV, insP k v (L ++ (a, b) :: R) = insP k v L ++ (a, b) :: R
  | [] => by simp only [List.nil_append, insP]; rw [if_neg (by omega), if_pos c]; rfl
  | (x, y) :: L => by
    simp only [List.cons_append, insP]
    rw [insP_l k v a b c R L]
    split
    · rfl
    · split <;> rfl
theorem insP_r (k v a b : List UInt8) (c : 0 ≤ cmp k a) (R : List KV) : ∀ L : List KV, (∀ x ∈ L, cmp x.1 a < 0) → insP k v (L ++ (a, b) :: R) = L ++ insP k v ((a, b) :: R)
  | [], _ => rfl
  | (x, y) :: L, h => by
    have h0 : cmp x a < 0 := h (x, y) (by simp)
    have sw := cmp_swap k a
    have sw2 := cmp_swap x k
    have := cmp_trans x a k (by omega) (by omega)
    simp only [List.cons_append, insP]
    rw [if_neg (by omega), if_neg (by omega), insP_r k v a b c R L fun z hz => h z (by simp [hz])]
    rfl
theorem put_list : ∀ (b : B) (k v : List UInt8), srtP b.list → (b.put k v).list = insP k v b.list
  | .n, k, v, _ => rfl
  | .d l a b r, k, v, h => by
    obtain ⟨h1, h2, h3, h4⟩ := srt_d h
    have i1 := put_list l k v h1
    have i2 := put_list r k v h2
    simp only [B.put]
    by_cases c1 : cmp k a = 0
    · rw [if_pos c1]
      simp only [B.list]
      rw [insP_r k v a b (by omega) _ _ h3]
      simp only [insP, if_pos c1]
    · rw [if_neg c1]
      by_cases c2 : cmp k a < 0
      · rw [if_pos c2, lev_list, i1]
        simp only [B.list]
        rw [insP_l k v a b c2]
      · rw [if_neg c2, lev_list, i2]
        simp only [B.list]
        rw [insP_r k v a b (by omega) _ _ h3]
        simp only [insP, if_neg c1, if_neg c2]
theorem insP_mem {k v : List UInt8} {x : KV} : ∀ {l : List KV}, x ∈ insP k v l → x ∈ l ∨ cmp k x.1 = 0 ∧ x.2 = v
  | [], h => by simp [insP] at h; subst h; exact .inr ⟨cmp_self k, rfl⟩
  | (a, b) :: l, h => by
    simp only [insP] at h
    split at h
    · rename_i c
      rcases List.mem_cons.1 h with rfl | h
      · exact .inr ⟨c, rfl⟩
      · exact .inl (by simp [h])
    · split at h
      · rcases List.mem_cons.1 h with rfl | h
        · exact .inr ⟨cmp_self k, rfl⟩
        · exact .inl h
      · rcases List.mem_cons.1 h with rfl | h
        · exact .inl (by simp)
        · rcases insP_mem h with h | h
          · exact .inl (by simp [h])
          · exact .inr h
theorem cmp_zero {a b : List UInt8} (h : cmp a b = 0) : a = b := cmp_eq a b h
theorem insP_srt (k v : List UInt8) : ∀ l : List KV, srtP l → srtP (insP k v l)
  | [], _ => by simp [insP, srtP]
  | (a, b) :: l, h => by
    unfold srtP at h
    rw [List.pairwise_cons] at h
    have ih := insP_srt k v l h.2
    simp only [insP]
    split
    · exact List.pairwise_cons.2 ⟨h.1, h.2⟩
    · split
      · rename_i c
        refine List.pairwise_cons.2 ⟨fun x hx => ?_, List.pairwise_cons.2 h⟩
        rcases List.mem_cons.1 hx with rfl | hx
        · exact c
        · have h1 : cmp a x.1 < 0 := h.1 x hx
          have := cmp_trans k a x.1 (by omega) (by omega)
          show cmp k x.1 < 0
          omega
      · rename_i c1 c2
        refine List.pairwise_cons.2 ⟨fun x hx => ?_, ih⟩
        rcases insP_mem hx with hx | ⟨hx, _⟩
        · exact h.1 x hx
        · have := cmp_zero hx
          rw [← this]
          have := cmp_swap k a
          show cmp a k < 0
          omega
theorem put_srt (b : B) (k v : List UInt8) (h : srtP b.list) : srtP (b.put k v).list := by
  rw [put_list b k v h]
  exact insP_srt k v _ h

end Go.Proofs.Ytfihodpdjpcpfaa
