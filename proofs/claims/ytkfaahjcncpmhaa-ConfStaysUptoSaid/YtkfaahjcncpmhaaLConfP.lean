/-
  Members: plain facts.
-/
import Derived.Test.YtkfaahjcncpmhaaEvE
set_option linter.unusedSimpArgs false
set_option linter.unusedVariables false
set_option maxRecDepth 200000
set_option maxHeartbeats 4000000
namespace Go.Proofs.Ytkfaahjcncpmhaa
open Go.Ev

/-- Is the number at i well there? -/
def okAt (l : List Int) (i : Nat) : Bool := decide (1 ≤ l.getD i 0 ∧ l.getD i 0 ≤ 7 ∧ (i = 0 ∨ l.getD (i - 1) 0 < l.getD i 0))
def mayF (l : List Int) : Nat → Nat → Bool
  | _, 0 => true
  | i, n + 1 => okAt l i && mayF l (i + 1) n
def mayL (l : List Int) : Bool := mayF l 0 l.length
def may (l : List Int) : Bool := mayL l && decide (0 < l.length)
def incr : Int → List Int → Bool
  | _, [] => true
  | lo, x :: r => decide (lo < x ∧ x ≤ 7) && incr x r
theorem mayF_incr : ∀ (n : Nat) (l : List Int) (i : Nat), i + n = l.length → ∀ lo : Int, (i = 0 → lo = 0) → (0 < i → lo = l.getD (i - 1) 0) → 0 ≤ lo → mayF l i n = incr lo (l.drop i) := fun n => by
  induction n with
  | zero =>
    intro l i h lo h1 h2 h0
    rw [List.drop_of_length_le (by omega)]
    rfl
  | succ n ih =>
    intro l i h lo h1 h2 h0
    have hd : l.drop i = l.getD i 0 :: l.drop (i + 1) := by
      rw [List.drop_eq_getElem_cons (by omega)]
      simp [List.getD, show i < l.length by omega]
    rw [hd]
    simp only [mayF, incr]
    by_cases hx : lo < l.getD i 0 ∧ l.getD i 0 ≤ 7
    · rw [ih l (i + 1) (by omega) (l.getD i 0) (by omega) (by intro _; simp) (by omega), decide_eq_true hx]
      have : okAt l i = true := by
        unfold okAt
        rw [decide_eq_true_eq]
        refine ⟨by omega, hx.2, ?_⟩
        by_cases h0 : i = 0
        · exact .inl h0
        · right
          rw [← h2 (by omega)]
          exact hx.1
      rw [this]
    · rw [decide_eq_false hx]
      have : okAt l i = false := by
        unfold okAt
        rw [decide_eq_false_iff_not]
        rintro ⟨a1, a2, a3⟩
        apply hx
        refine ⟨?_, a2⟩
        by_cases h0 : i = 0
        · rw [h1 h0]; omega
        · rw [h2 (by omega)]
          rcases a3 with a3 | a3
          · exact absurd a3 h0
          · exact a3
      rw [this]
      rfl
theorem mayL_incr (l : List Int) : mayL l = incr 0 l := by
  have := mayF_incr l.length l 0 (by omega) 0 (by simp) (by omega) (by omega)
  rw [List.drop_zero] at this
  exact this
theorem incr_len : ∀ (l : List Int) (lo : Int), incr lo l = true → lo ≤ 7 → (l.length : Int) ≤ 7 - lo
  | [], lo, _, h => by simp; omega
  | x :: r, lo, h, _ => by
    simp only [incr, Bool.and_eq_true, decide_eq_true_eq] at h
    have := incr_len r x h.2 h.1.2
    simp only [List.length_cons]
    omega
theorem incr_mem : ∀ (l : List Int) (lo : Int), incr lo l = true → ∀ x ∈ l, lo < x ∧ x ≤ 7
  | [], _, _, x, hx => by simp at hx
  | y :: r, lo, h, x, hx => by
    simp only [incr, Bool.and_eq_true, decide_eq_true_eq] at h
    rcases List.mem_cons.1 hx with rfl | hx
    · exact h.1
    · have := incr_mem r y h.2 x hx
      omega
theorem mayL_len {l : List Int} (h : mayL l = true) : l.length ≤ 7 := by
  rw [mayL_incr] at h
  have := incr_len l 0 h (by omega)
  omega
/-- The numbers from lo + 1 on, n of them. -/
def nums : Nat → Int → List Int
  | 0, _ => []
  | n + 1, lo => (lo + 1) :: nums n (lo + 1)
def bi : Bool → Int
  | true => 1
  | false => 0
/-- How many of numbers. -/
def cnt1 (p : Int → Bool) : List Int → Int
  | [] => 0
  | x :: r => bi (p x) + cnt1 p r
theorem nums_lo : ∀ (n : Nat) (lo : Int), ∀ x ∈ nums n lo, lo < x
  | 0, _, x, h => by simp [nums] at h
  | n + 1, lo, x, h => by
    simp only [nums, List.mem_cons] at h
    rcases h with h | h
    · omega
    · have := nums_lo n (lo + 1) x h
      omega
theorem cnt1_congr {p q : Int → Bool} : ∀ {l : List Int}, (∀ x ∈ l, p x = q x) → cnt1 p l = cnt1 q l
  | [], _ => rfl
  | x :: r, h => by
    simp only [cnt1, h x (List.mem_cons_self ..), cnt1_congr fun y hy => h y (List.mem_cons_of_mem _ hy)]
theorem cnt1_zero {p : Int → Bool} : ∀ {l : List Int}, (∀ x ∈ l, p x = false) → cnt1 p l = 0
  | [], _ => rfl
  | x :: r, h => by
    simp only [cnt1, h x (List.mem_cons_self ..), cnt1_zero fun y hy => h y (List.mem_cons_of_mem _ hy)]
    rfl
/-- Numbers that grow: how many of them are so is told by all the numbers there are. -/
theorem cnt1_nums (p : Int → Bool) : ∀ (n : Nat) (lo : Int) (l : List Int), lo + n = 7 → incr lo l = true → cnt1 p l = cnt1 (fun x => decide (x ∈ l) && p x) (nums n lo)
  | 0, lo, l, h, hi => by
    have := incr_len l lo hi (by omega)
    have : l = [] := List.length_eq_zero_iff.1 (by omega)
    subst this
    rfl
  | n + 1, lo, [], h, hi => by
    rw [cnt1_zero (p := fun x => decide (x ∈ []) && p x) (fun x hx => by simp)]
    rfl
  | n + 1, lo, x :: r, h, hi => by
    have hi' := hi
    simp only [incr, Bool.and_eq_true, decide_eq_true_eq] at hi
    by_cases hx : x = lo + 1
    · subst hx
      have ih := cnt1_nums p n (lo + 1) r (by omega) hi.2
      simp only [cnt1, nums, List.mem_cons, true_or, decide_true, Bool.true_and, ih]
      congr 1
      apply cnt1_congr
      intro y hy
      have := nums_lo n (lo + 1) y hy
      have e : decide (y = lo + 1 ∨ y ∈ r) = decide (y ∈ r) := by
        apply decide_eq_decide.2
        constructor
        · rintro (h | h)
          · omega
          · exact h
        · exact .inr
      rw [e]
    · have ih := cnt1_nums p n (lo + 1) (x :: r) (by omega) (by
        simp only [incr, Bool.and_eq_true, decide_eq_true_eq]
        exact ⟨⟨by omega, hi.1.2⟩, hi.2⟩)
      rw [ih]
      simp only [nums, cnt1]
      have : ¬ (lo + 1 ∈ x :: r) := by
        intro hm
        rcases List.mem_cons.1 hm with hm | hm
        · omega
        · have := incr_mem r x hi.2 _ hm
          omega
      rw [decide_eq_false this]
      simp [bi]
def ids7 : List Int := [1, 2, 3, 4, 5, 6, 7]
theorem cnt1_ids (p : Int → Bool) {l : List Int} (h : mayL l = true) : cnt1 p l = cnt1 (fun x => decide (x ∈ l) && p x) ids7 := by
  rw [mayL_incr] at h
  exact cnt1_nums p 7 0 l (by omega) h
theorem cnt1_all : ∀ l : List Int, cnt1 (fun _ => true) l = l.length
  | [] => rfl
  | x :: r => by simp only [cnt1, cnt1_all r, List.length_cons, bi]; omega
theorem len_ids {l : List Int} (h : mayL l = true) : (l.length : Int) = cnt1 (fun x => decide (x ∈ l)) ids7 := by
  have := cnt1_ids (fun _ => true) h
  rw [cnt1_all] at this
  simpa using this
/-- Two of numbers: how many are of the one, of the other, of just one. -/
theorem two_of_ids (p q : Int → Bool) : ∀ l : List Int, ((∀ x ∈ l, p x = true → q x = true) ↔ cnt1 (fun x => p x != q x) l = cnt1 q l - cnt1 p l) ∧ cnt1 q l - cnt1 p l ≤ cnt1 (fun x => p x != q x) l ∧ cnt1 p l - cnt1 q l ≤ cnt1 (fun x => p x != q x) l ∧ (∃ k, cnt1 (fun x => p x != q x) l = cnt1 q l - cnt1 p l + 2 * k)
  | [] => by
    simp [cnt1]
    exact ⟨0, rfl⟩
  | x :: r => by
    obtain ⟨h1, h2, h3, k, h4⟩ := two_of_ids p q r
    simp only [List.mem_cons, forall_eq_or_imp, cnt1]
    generalize cnt1 p r = cp at *
    generalize cnt1 q r = cq at *
    generalize cnt1 (fun x => p x != q x) r = cd at *
    generalize p x = u at *
    generalize q x = v at *
    cases u <;> cases v <;> simp only [bne_self_eq_false, Bool.false_eq_true, Bool.true_bne, Bool.false_bne, Bool.not_true, Bool.not_false, forall_const, false_implies, true_implies, true_and, false_and, reduceCtorEq, bi]
    · refine ⟨by rw [h1]; constructor <;> intro <;> omega, by omega, by omega, k, by omega⟩
    · refine ⟨by rw [h1]; constructor <;> intro <;> omega, by omega, by omega, k, by omega⟩
    · refine ⟨⟨fun h => h.elim, fun h => by omega⟩, by omega, by omega, k + 1, by omega⟩
    · refine ⟨by rw [h1]; constructor <;> intro <;> omega, by omega, by omega, k, by omega⟩
def step1 (a b : List Int) : Bool := may a && may b && decide (b.length = a.length + 1) && a.all (fun x => decide (x ∈ b))
def stepP (a b : List Int) : Bool := if b.length < a.length then step1 b a else step1 a b
def differ (a b : List Int) : Int := cnt1 (fun x => decide (x ∈ a) != decide (x ∈ b)) ids7
def stepR (a b : List Int) : Bool := may a && may b && decide (differ a b = 1)
theorem mem_ids {l : List Int} (h : mayL l = true) {x : Int} (hx : x ∈ l) : x ∈ ids7 := by
  rw [mayL_incr] at h
  have := incr_mem l 0 h x hx
  unfold ids7
  simp only [List.mem_cons, List.not_mem_nil, or_false]
  omega
theorem differ_comm (a b : List Int) : differ a b = differ b a := cnt1_congr fun x _ => Bool.xor_comm _ _
theorem step1_iff {a b : List Int} (ha : mayL a = true) (hb : mayL b = true) (hl : a.length ≤ b.length) : (b.length = a.length + 1 ∧ ∀ x ∈ a, x ∈ b) ↔ differ a b = 1 := by
  obtain ⟨h1, h2, h3, k, h4⟩ := two_of_ids (fun x => decide (x ∈ a)) (fun x => decide (x ∈ b)) ids7
  have la := len_ids ha
  have lb := len_ids hb
  change (_ ↔ differ a b = _) at h1
  change _ ≤ differ a b at h2
  change differ a b = _ at h4
  have key : (∀ x ∈ a, x ∈ b) ↔ ∀ x ∈ ids7, decide (x ∈ a) = true → decide (x ∈ b) = true := by
    simp only [decide_eq_true_eq]
    exact ⟨fun h x _ hx => h x hx, fun h x hx => h x (mem_ids ha hx) hx⟩
  rw [key, h1]
  omega
theorem may_iff {l : List Int} : may l = true ↔ mayL l = true ∧ 0 < l.length := by
  unfold may
  rw [Bool.and_eq_true, decide_eq_true_eq]
theorem step1_R {a b : List Int} (hl : a.length ≤ b.length) : step1 a b = stepR a b := by
  unfold step1 stepR
  cases ha : may a
  · rfl
  · cases hb : may b
    · rfl
    · have := step1_iff (may_iff.1 ha).1 (may_iff.1 hb).1 hl
      rw [Bool.eq_iff_iff]
      simp only [Bool.true_and, Bool.and_eq_true, decide_eq_true_eq, List.all_eq_true]
      exact this
theorem stepR_comm (a b : List Int) : stepR a b = stepR b a := by
  unfold stepR
  rw [differ_comm a b, Bool.and_comm (may a)]
theorem step_eq (a b : List Int) : stepP a b = stepR a b := by
  unfold stepP
  split
  · rw [step1_R (by omega), stepR_comm]
  · exact step1_R (by omega)
def mostP (l ids : List Int) : Bool := may l && decide ((l.length : Int) < 2 * cnt1 (fun x => decide (x ∈ ids)) l)
/-- Sums over the members that there are. -/
theorem meet_sum (a b x y : Int → Bool) : ∀ l : List Int, (∀ i ∈ l, ¬ (x i = true ∧ y i = true ∧ a i = true ∧ b i = true)) → (∀ i ∈ l, a i = true → b i = true) → cnt1 (fun i => a i && x i) l + cnt1 (fun i => b i && y i) l ≤ cnt1 b l
  | [], _, _ => by simp [cnt1]
  | i :: r, h1, h2 => by
    have ih := meet_sum a b x y r (fun j hj => h1 j (List.mem_cons_of_mem _ hj)) (fun j hj => h2 j (List.mem_cons_of_mem _ hj))
    have e1 := h1 i (List.mem_cons_self ..)
    have e2 := h2 i (List.mem_cons_self ..)
    simp only [cnt1]
    generalize a i = u1 at *
    generalize b i = u2 at *
    generalize x i = u3 at *
    generalize y i = u4 at *
    cases u1 <;> cases u2 <;> cases u3 <;> cases u4 <;> simp only [Bool.and_self, Bool.and_true, Bool.and_false, Bool.true_and, Bool.false_and, bi] <;> first | omega | (exfalso; simp at e1; done) | (exfalso; simp at e2; done)
theorem meet_one {a b x y : List Int} (hn : differ a b = 1 ∨ a = b) (hl : a.length ≤ b.length) (hx : mostP a x = true) (hy : mostP b y = true) : ∃ i ∈ ids7, i ∈ x ∧ i ∈ y ∧ i ∈ a ∧ i ∈ b := by
  unfold mostP at hx hy
  simp only [Bool.and_eq_true, decide_eq_true_eq, may_iff] at hx hy
  obtain ⟨⟨a1, a2⟩, a3⟩ := hx
  obtain ⟨⟨b1, b2⟩, b3⟩ := hy
  have hab : (b.length : Int) ≤ a.length + 1 ∧ ∀ i ∈ a, i ∈ b := by
    rcases hn with hn | hn
    · have := (step1_iff a1 b1 hl).2 hn
      exact ⟨by omega, this.2⟩
    · subst hn
      exact ⟨by omega, fun i h => h⟩
  rw [cnt1_ids _ a1] at a3
  rw [cnt1_ids _ b1] at b3
  have la := len_ids a1
  have lb := len_ids b1
  by_cases hc : ∃ i ∈ ids7, i ∈ x ∧ i ∈ y ∧ i ∈ a ∧ i ∈ b
  · exact hc
  · exfalso
    have := meet_sum (fun i => decide (i ∈ a)) (fun i => decide (i ∈ b)) (fun i => decide (i ∈ x)) (fun i => decide (i ∈ y)) ids7
      (fun i hi h => hc ⟨i, hi, by simpa using h⟩) (fun i _ h => by simpa using hab.2 i (by simpa using h))
    omega
theorem meet {a b x y : List Int} (hn : stepP a b = true ∨ a = b) (hx : mostP a x = true) (hy : mostP b y = true) : ∃ i ∈ ids7, i ∈ x ∧ i ∈ y ∧ i ∈ a ∧ i ∈ b := by
  have hn : differ a b = 1 ∨ a = b := by
    rcases hn with h | h
    · rw [step_eq] at h
      unfold stepR at h
      simp only [Bool.and_eq_true, decide_eq_true_eq] at h
      exact .inl h.2
    · exact .inr h
  by_cases hl : a.length ≤ b.length
  · exact meet_one hn hl hx hy
  · have hn2 : differ b a = 1 ∨ b = a := by
      rcases hn with h | h
      · exact .inl (by rw [differ_comm]; exact h)
      · exact .inr h.symm
    obtain ⟨i, h0, h1, h2, h3, h4⟩ := meet_one hn2 (by omega) hy hx
    exact ⟨i, h0, h2, h1, h4, h3⟩

end Go.Proofs.Ytkfaahjcncpmhaa
