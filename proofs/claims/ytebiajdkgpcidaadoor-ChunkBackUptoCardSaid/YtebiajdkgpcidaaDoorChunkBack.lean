/-
  The order of strings of bytes.
-/
import Derived.Test.YtebiajdkgpcidaaDoorIr
import Derived.Test.YtebiajdkgpcidaaDoorLTree5
import Derived.Test.YtebiajdkgpcidaaDoorLCoder
import Derived.Test.YtebiajdkgpcidaaDoorLClone
import Derived.KernelRfl
import Derived.Test.YtebiajdkgpcidaaDoorLSmall11
set_option linter.unusedSimpArgs false
set_option linter.unusedVariables false
set_option maxRecDepth 200000
set_option maxHeartbeats 4000000
namespace Go.Proofs.YtebiajdkgpcidaaDoor
open Go.Ev

/-- How two compare. -/
abbrev cmp (a b : List UInt8) : Int := Lib.compareBytes a b
theorem cmp_range : ∀ (a b : List UInt8), cmp a b = -1 ∨ cmp a b = 0 ∨ cmp a b = 1
  | [], [] => by simp [cmp, Lib.compareBytes]
  | [], _ :: _ => by simp [cmp, Lib.compareBytes]
  | _ :: _, [] => by simp [cmp, Lib.compareBytes]
  | x :: a, y :: b => by
    have := cmp_range a b
    simp only [cmp, Lib.compareBytes] at *
    split
    · simp
    · split
      · simp
      · exact this
theorem cmp_self : ∀ (a : List UInt8), cmp a a = 0
  | [] => rfl
  | x :: a => by
    have := cmp_self a
    have h : ¬ x < x := by simp [UInt8.lt_iff_toNat_lt]
    simp only [cmp, Lib.compareBytes, h, if_false] at *
    exact this
theorem cmp_swap : ∀ (a b : List UInt8), cmp b a = - cmp a b
  | [], [] => rfl
  | [], _ :: _ => rfl
  | _ :: _, [] => rfl
  | x :: a, y :: b => by
    have := cmp_swap a b
    simp only [cmp, Lib.compareBytes] at *
    have h1 := UInt8.lt_iff_toNat_lt (a := x) (b := y)
    have h2 := UInt8.lt_iff_toNat_lt (a := y) (b := x)
    by_cases c1 : x < y
    · have c2 : ¬ y < x := by rw [h2]; rw [h1] at c1; omega
      simp [c1, c2]
    · by_cases c2 : y < x
      · simp [c1, c2]
      · simp [c1, c2, this]
theorem cmp_eq : ∀ (a b : List UInt8), cmp a b = 0 → a = b
  | [], [], _ => rfl
  | [], _ :: _, h => by simp [cmp, Lib.compareBytes] at h
  | _ :: _, [], h => by simp [cmp, Lib.compareBytes] at h
  | x :: a, y :: b, h => by
    simp only [cmp, Lib.compareBytes] at h
    have h1 := UInt8.lt_iff_toNat_lt (a := x) (b := y)
    have h2 := UInt8.lt_iff_toNat_lt (a := y) (b := x)
    by_cases c1 : x < y
    · simp [c1] at h
    · by_cases c2 : y < x
      · simp [c1, c2] at h
      · simp only [c1, c2, if_false] at h
        have : x = y := UInt8.toNat_inj.1 (by rw [h1] at c1; rw [h2] at c2; omega)
        rw [this, cmp_eq a b h]
theorem cmp_trans : ∀ (a b c : List UInt8), cmp a b ≤ 0 → cmp b c ≤ 0 → cmp a c ≤ 0 ∧ (cmp a c = 0 → cmp a b = 0 ∧ cmp b c = 0)
  | [], [], [], _, _ => by simp [cmp, Lib.compareBytes]
  | [], [], _ :: _, _, _ => by simp [cmp, Lib.compareBytes]
  | [], _ :: _, [], _, h => by simp [cmp, Lib.compareBytes] at h
  | [], _ :: _, _ :: _, _, _ => by simp [cmp, Lib.compareBytes]
  | _ :: _, [], _, h, _ => by simp [cmp, Lib.compareBytes] at h
  | _ :: _, _ :: _, [], _, h => by simp [cmp, Lib.compareBytes] at h
  | x :: a, y :: b, z :: c, h, h' => by
    have ih := cmp_trans a b c
    simp only [cmp, Lib.compareBytes] at *
    have h1 := UInt8.lt_iff_toNat_lt (a := x) (b := y)
    have h2 := UInt8.lt_iff_toNat_lt (a := y) (b := x)
    have h3 := UInt8.lt_iff_toNat_lt (a := y) (b := z)
    have h4 := UInt8.lt_iff_toNat_lt (a := z) (b := y)
    have h5 := UInt8.lt_iff_toNat_lt (a := x) (b := z)
    have h6 := UInt8.lt_iff_toNat_lt (a := z) (b := x)
    by_cases c1 : x < y
    · by_cases c3 : y < z
      · have c5 : x < z := by rw [h5]; rw [h1] at c1; rw [h3] at c3; omega
        simp [c1, c3, c5]
      · by_cases c4 : z < y
        · simp [c3, c4] at h'
        · have c5 : x < z := by rw [h5]; rw [h1] at c1; rw [h3] at c3; rw [h4] at c4; omega
          simp [c5]
    · by_cases c2 : y < x
      · simp [c1, c2] at h
      · by_cases c3 : y < z
        · have c5 : x < z := by rw [h5]; rw [h1] at c1; rw [h2] at c2; rw [h3] at c3; omega
          simp [c5]
        · by_cases c4 : z < y
          · simp [c3, c4] at h'
          · have c5 : ¬ x < z := by rw [h5]; rw [h1] at c1; rw [h2] at c2; rw [h3] at c3; rw [h4] at c4; omega
            have c6 : ¬ z < x := by rw [h6]; rw [h1] at c1; rw [h2] at c2; rw [h3] at c3; rw [h4] at c4; omega
            simp only [c1, c2, c3, c4, c5, c6, if_false] at *
            exact ih h h'
theorem less_cmp : ∀ (a b : List UInt8), Op.bytesLess a b = decide (cmp a b < 0)
  | [], [] => rfl
  | [], _ :: _ => rfl
  | _ :: _, [] => rfl
  | x :: a, y :: b => by
    have ih := less_cmp a b
    have h1 := UInt8.lt_iff_toNat_lt (a := x) (b := y)
    have h2 := UInt8.lt_iff_toNat_lt (a := y) (b := x)
    simp only [cmp, Lib.compareBytes] at *
    by_cases c1 : x < y
    · simp [Op.bytesLess, c1]
    · by_cases c2 : y < x
      · have : x ≠ y := fun h => by subst h; exact c1 c2
        simp [Op.bytesLess, c1, c2, this]
      · have : x = y := UInt8.toNat_inj.1 (by rw [h1] at c1; rw [h2] at c2; omega)
        subst this
        simp [Op.bytesLess, c1, ih]
theorem eq_cmp (a b : List UInt8) : (a == b) = decide (cmp a b = 0) := by
  by_cases h : a = b
  · subst h; simp [cmp_self]
  · have : cmp a b ≠ 0 := fun h2 => h (cmp_eq a b h2)
    simp [h, this]
theorem beq_cmp {a b : List UInt8} (h : a ≠ b) : (a == b) = false := by simp [h]
/-- Below the next one. -/
theorem cmp_next : ∀ (a b : List UInt8), cmp a (b ++ [0]) < 0 ↔ cmp a b ≤ 0
  | [], [] => by simp [cmp, Lib.compareBytes]
  | [], _ :: _ => by simp [cmp, Lib.compareBytes]
  | [x], [] => by
    have : ¬ x < 0 := by simp [UInt8.lt_iff_toNat_lt]
    simp [cmp, Lib.compareBytes, this]
    try (split <;> decide)
  | x :: z :: a, [] => by
    have : ¬ x < 0 := by simp [UInt8.lt_iff_toNat_lt]
    simp [cmp, Lib.compareBytes, this]
    try (split <;> decide)
  | x :: a, y :: b => by
    have ih := cmp_next a b
    simp only [cmp, Lib.compareBytes, List.cons_append] at *
    by_cases c1 : x < y
    · simp [c1]
    · by_cases c2 : y < x
      · simp [c1, c2]
      · simp only [c1, c2, if_false]
        exact ih
end Go.Proofs.YtebiajdkgpcidaaDoor
namespace Go.Proofs.YtebiajdkgpcidaaDoor
open Go.Ev

attribute [go_sem] T_kind T_key T_value T_digest T_kids
inductive B where
  | n
  | d (l : B) (k v : List UInt8) (r : B)
namespace B
def t : B → T
  | .n => .no
  | .d l k v r => .mk 1 k v [] [l.t, r.t]
def depth : B → Int
  | .n => 0
  | .d l _ _ r => max l.depth r.depth + 1
def bal : B → Bool
  | .n => true
  | .d l _ _ r => l.bal && r.bal && decide (l.depth - r.depth ≤ 1) && decide (r.depth - l.depth ≤ 1)
def list : B → List (List UInt8 × List UInt8)
  | .n => []
  | .d l k v r => l.list ++ (k, v) :: r.list
/-- Keys and values are short enough. -/
def ok : B → Bool
  | .n => true
  | .d l k v r => l.ok && r.ok && decide (k.length ≤ 80) && decide (v.length ≤ 1024)
def nodes : B → Nat
  | .n => 0
  | .d l _ _ r => l.nodes + r.nodes + 1
end B
theorem Bt_n : B.n.t = .no := rfl
theorem Bt_d {l r : B} {k v : List UInt8} : (B.d l k v r).t = .mk 1 k v [] [l.t, r.t] := rfl
theorem no_kids : T.no.kids = [] := rfl
theorem no_kind : T.no.kind = 0 := rfl
theorem no_key : T.no.key = [] := rfl
theorem no_value : T.no.value = [] := rfl
theorem no_digest : T.no.digest = [] := rfl
attribute [go_sem] no_kids no_kind no_key no_value no_digest
theorem no_formed : T.no.formed = true := rfl
theorem Bt_kids {l r : B} {k v : List UInt8} : (B.d l k v r).t.kids = [l.t, r.t] := rfl
theorem Bt_formed : ∀ b : B, b.ok = true → b.t.formed = true
  | .n, _ => rfl
  | .d l k v r, h => by
    simp only [B.ok, Bool.and_eq_true, decide_eq_true_eq] at h
    obtain ⟨⟨⟨h1, h2⟩, h3⟩, h4⟩ := h
    have f1 := Bt_formed l h1
    have f2 := Bt_formed r h2
    rw [Bt_d]
    simp only [T.formed, formedL, f1, f2, Bool.and_self, Bool.and_true, decide_eq_true_eq]
    exact .inr (.inl ⟨rfl, h3, h4, rfl, rfl⟩)
theorem Bt_full : ∀ b : B, b.t.full = true
  | .n => rfl
  | .d l k v r => by
    have f1 := Bt_full l
    have f2 := Bt_full r
    rw [Bt_d]
    simp [T.full, fullL, f1, f2]
theorem Bt_depth : ∀ b : B, b.t.depth = b.depth
  | .n => rfl
  | .d l k v r => by rw [depth_two Bt_kids, Bt_depth l, Bt_depth r, B.depth]
theorem Bt_bal : ∀ b : B, b.t.bal = b.bal
  | .n => rfl
  | .d l k v r => by rw [bal_two Bt_kids, Bt_bal l, Bt_bal r, Bt_depth l, Bt_depth r, B.bal]
theorem Bd_nn : ∀ b : B, 0 ≤ b.depth
  | .n => by simp [B.depth]
  | .d l k v r => by have := Bd_nn l; simp only [B.depth]; omega
theorem Bd_nodes : ∀ b : B, b.depth ≤ b.nodes
  | .n => by simp [B.depth, B.nodes]
  | .d l k v r => by have := Bd_nodes l; have := Bd_nodes r; simp only [B.depth, B.nodes]; omega
theorem Bl_nodes : ∀ b : B, b.list.length = b.nodes
  | .n => rfl
  | .d l k v r => by simp only [B.list, B.nodes, List.length_append, List.length_cons, Bl_nodes l, Bl_nodes r]; omega
theorem Bt_deep : ∀ (b : B) (n : Int), 0 ≤ n → b.t.deep n = decide (n < b.depth)
  | .n, n, h => by
    rw [deep_eq]
    have : ¬ (T.no.kind = 1 ∨ T.no.kind = 2 ∨ 0 < T.no.kids.length) := by simp [T.no, T.kind, T.kids]
    rw [Bt_n, if_neg (fun h => this h.1), no_kids, deepL, decide_eq_false (by simp only [B.depth]; omega)]
  | .d l k v r, n, h => by
    have h1 := Bd_nn l
    have h2 := Bd_nn r
    rw [deep_eq]
    by_cases hn : n = 0
    · have : ((B.d l k v r).t.kind = 1 ∨ (B.d l k v r).t.kind = 2 ∨ 0 < (B.d l k v r).t.kids.length) ∧ n = 0 := ⟨.inl rfl, hn⟩
      rw [if_pos this]
      exact (decide_eq_true (by simp only [B.depth]; omega)).symm
    · rw [if_neg (fun h => hn h.2), Bt_kids]
      simp only [deepL, Bt_deep l (n - 1) (by omega), Bt_deep r (n - 1) (by omega), Bool.or_false, B.depth]
      rw [← Bool.decide_or]
      exact decide_eq_decide.mpr (by omega)
theorem Bt_chk (b : B) (h : b.ok = true) (hd : b.depth ≤ 64) : b.t.chk = 0 := by
  have h1 := Bt_deep b 64 (by omega)
  rw [decide_eq_false (by omega)] at h1
  rw [T.chk, h1, Bt_formed b h]
  simp
/-- Each tree that is formed and of which all is told. -/
theorem of_full : ∀ t : T, t.formed = true → t.full = true → ∃ b : B, b.t = t ∧ b.ok = true := F_ind
  (fun t hf h hfull => by
    rw [formed_eq] at hf
    simp only [Bool.and_eq_true, decide_eq_true_eq] at hf
    have hok := hf.1
    rw [full_eq] at hfull
    have hk : ¬ 1 < t.kind := fun hc => by rw [if_pos hc] at hfull; cases hfull
    unfold okT at hok
    refine ⟨.n, ?_, rfl⟩
    have e1 : t.kids.length = 0 := by rw [h]; rfl
    have e2 : t.kind = 0 := by omega
    have e3 : t.key = [] := List.eq_nil_of_length_eq_zero (by omega)
    have e4 : t.value = [] := List.eq_nil_of_length_eq_zero (by omega)
    have e5 : t.digest = [] := List.eq_nil_of_length_eq_zero (by omega)
    rw [← T_eta t, e2, e3, e4, e5, h]
    rfl)
  fun t l r hf h hl hr ih1 ih2 hfull => by
    rw [formed_eq] at hf
    simp only [Bool.and_eq_true, decide_eq_true_eq] at hf
    have hok := hf.1
    rw [full_eq] at hfull
    have hk : ¬ 1 < t.kind := fun hc => by rw [if_pos hc] at hfull; cases hfull
    rw [if_neg hk, h] at hfull
    simp only [fullL, Bool.and_eq_true] at hfull
    obtain ⟨bl, el, ol⟩ := ih1 hfull.1
    obtain ⟨br, er, or'⟩ := ih2 hfull.2.1
    have e1 : t.kids.length = 2 := by rw [h]; rfl
    unfold okT at hok
    have e2 : t.kind = 1 := by omega
    have e5 : t.digest = [] := List.eq_nil_of_length_eq_zero (by omega)
    refine ⟨.d bl t.key t.value br, ?_, ?_⟩
    · rw [Bt_d, el, er, ← e5, ← e2, ← h, T_eta]
    · simp only [B.ok, ol, or', Bool.and_self, Bool.true_and, Bool.and_eq_true, decide_eq_true_eq]
      omega
theorem Bt_size {l r : B} {k v : List UInt8} : (B.d l k v r).t.size = 1 + k.length + v.length + (l.t.size + r.t.size) := by
  rw [size_two Bt_kids]
  show 1 + k.length + v.length + ([] : List UInt8).length + _ = _
  simp
theorem Bn_size : B.n.t.size = 1 := rfl
theorem Bt_nodes : ∀ b : B, b.nodes ≤ b.t.size
  | .n => by simp [B.nodes]
  | .d l k v r => by rw [Bt_size]; have := Bt_nodes l; have := Bt_nodes r; simp only [B.nodes]; omega
theorem Bd_size (b : B) : b.depth ≤ b.t.size := by have := Bd_nodes b; have := Bt_nodes b; omega
/-! ### Leveling -/
/-- Turned to the right. -/
def rotR : B → B
  | .d (.d ll lk lv lr) k v r => .d ll lk lv (.d lr k v r)
  | b => b
def rotL : B → B
  | .d l k v (.d rl rk rv rr) => .d (.d l k v rl) rk rv rr
  | b => b
def B.lt : B → Bool    -- is the left part of lesser depth?
  | .d l _ _ r => decide (l.depth < r.depth)
  | .n => false
def B.gt : B → Bool
  | .d l _ _ r => decide (r.depth < l.depth)
  | .n => false
def lev (l : B) (k v : List UInt8) (r : B) : B :=
  if 1 < l.depth - r.depth then rotR (.d (if l.lt = true then rotL l else l) k v r)
  else if l.depth - r.depth < -1 then rotL (.d l k v (if r.gt = true then rotR r else r))
  else .d l k v r
theorem depth_pos {b : B} (h : 0 < b.depth) : ∃ l k v r, b = .d l k v r := by
  cases b with
  | n => simp [B.depth] at h
  | d l k v r => exact ⟨l, k, v, r, rfl⟩
theorem lev_list (l : B) (k v : List UInt8) (r : B) : (lev l k v r).list = l.list ++ (k, v) :: r.list := by
  unfold lev
  split
  · split
    · cases l with
      | n => simp [B.lt] at *
      | d ll lk lv lr => cases lr with
        | n => simp [rotL, rotR, B.list]
        | d a b c e => simp [rotL, rotR, B.list]
    · cases l <;> simp [rotR, B.list]
  · split
    · split
      · cases r with
        | n => simp [B.gt] at *
        | d rl rk rv rr => cases rl with
          | n => simp [rotL, rotR, B.list]
          | d a b c e => simp [rotL, rotR, B.list]
      · cases r <;> simp [rotL, B.list]
    · simp [B.list]
theorem lev_ok (l : B) (k v : List UInt8) (r : B) : (lev l k v r).ok = (B.d l k v r).ok := by
  have key : ∀ a b c d e f g : Bool, (a && b && c && d) = (b && a && c && d) := fun a b c d _ _ _ => by cases a <;> cases b <;> rfl
  unfold lev
  split
  · split
    · cases l with
      | n => simp [B.lt] at *
      | d ll lk lv lr => cases lr with
        | n => simp [rotL, rotR, B.ok]; grind
        | d a b c e => simp [rotL, rotR, B.ok]; grind
    · cases l <;> simp [rotR, B.ok] <;> grind
  · split
    · split
      · cases r with
        | n => simp [B.gt] at *
        | d rl rk rv rr => cases rl with
          | n => simp [rotL, rotR, B.ok]; grind
          | d a b c e => simp [rotL, rotR, B.ok]; grind
      · cases r <;> simp [rotL, B.ok] <;> grind
    · rfl
theorem bal_d (l : B) (k v : List UInt8) (r : B) : ((B.d l k v r).bal = true) = (l.bal = true ∧ r.bal = true ∧ l.depth - r.depth ≤ 1 ∧ r.depth - l.depth ≤ 1) := by
  simp only [B.bal, Bool.and_eq_true, decide_eq_true_eq, and_assoc]
theorem lev_bal (l : B) (k v : List UInt8) (r : B) (hl : l.bal = true) (hr : r.bal = true) (h1 : l.depth - r.depth ≤ 2) (h2 : r.depth - l.depth ≤ 2) : (lev l k v r).bal = true ∧ max l.depth r.depth ≤ (lev l k v r).depth ∧ (lev l k v r).depth ≤ max l.depth r.depth + 1 ∧ (l.depth - r.depth ≤ 1 → r.depth - l.depth ≤ 1 → (lev l k v r).depth = max l.depth r.depth + 1) := by
  have hrn := Bd_nn r
  have hln := Bd_nn l
  unfold lev
  split
  · rename_i hc
    obtain ⟨ll, lk, lv, lr, rfl⟩ := depth_pos (b := l) (by omega)
    have hlln := Bd_nn ll
    have hlrn := Bd_nn lr
    rw [bal_d] at hl
    obtain ⟨b1, b2, b3, b4⟩ := hl
    simp only [B.depth] at hc h1 h2 hln ⊢
    split
    · rename_i hlt
      simp only [B.lt, decide_eq_true_eq] at hlt
      obtain ⟨a, ck, cv, c, rfl⟩ := depth_pos (b := lr) (by omega)
      have han := Bd_nn a
      have hcn := Bd_nn c
      rw [bal_d] at b2
      obtain ⟨c1, c2, c3, c4⟩ := b2
      simp only [B.depth] at *
      simp only [rotL, rotR, bal_d, B.depth, b1, c1, c2, hr, true_and]
      omega
    · rename_i hlt
      simp only [B.lt, decide_eq_true_eq] at hlt
      simp only [rotR, bal_d, B.depth, b1, b2, hr, true_and]
      omega
  · rename_i hc0
    split
    · rename_i hc
      obtain ⟨rl, rk, rv, rr, rfl⟩ := depth_pos (b := r) (by omega)
      have hrln := Bd_nn rl
      have hrrn := Bd_nn rr
      rw [bal_d] at hr
      obtain ⟨b1, b2, b3, b4⟩ := hr
      simp only [B.depth] at hc h1 h2 hrn ⊢
      split
      · rename_i hlt
        simp only [B.gt, decide_eq_true_eq] at hlt
        obtain ⟨a, ck, cv, c, rfl⟩ := depth_pos (b := rl) (by omega)
        have han := Bd_nn a
        have hcn := Bd_nn c
        rw [bal_d] at b1
        obtain ⟨c1, c2, c3, c4⟩ := b1
        simp only [B.depth] at *
        simp only [rotL, rotR, bal_d, B.depth, b2, c1, c2, hl, true_and]
        omega
      · rename_i hlt
        simp only [B.gt, decide_eq_true_eq] at hlt
        simp only [rotL, bal_d, B.depth, b1, b2, hl, true_and]
        omega
    · simp only [bal_d, B.depth, hl, hr, true_and]
      exact ⟨⟨by omega, by omega⟩, by omega, by omega, fun _ _ => trivial⟩

end Go.Proofs.YtebiajdkgpcidaaDoor
namespace Go.Proofs.YtebiajdkgpcidaaDoor
open Go.Ev

abbrev avB (b : B) : AV := avT b.t
theorem avB_d {l r : B} {k v : List UInt8} : avB (.d l k v r) = .agg [i64 1, .sl true (eB k), .sl true (eB v), .sl true [], .sl true (eT [l.t, r.t])] := rfl
theorem ref05_Node_ev (l : B) (k v : List UInt8) (r : B) : Ev tab G0 n_ref05_Node [avB l, .sl true (eB k), .sl true (eB v), avB r] [] = some ([avB (.d l k v r)], []) := by
  have h1 : l.t.cells = [.sc (.int .i64 l.t.kind), .sl (eB l.t.key), .sl (eB l.t.value), .sl (eB l.t.digest), .sl (eT l.t.kids)] := cells_eq _
  have h2 : r.t.cells = [.sc (.int .i64 r.t.kind), .sl (eB r.t.key), .sl (eB r.t.value), .sl (eB r.t.digest), .sl (eT r.t.kids)] := cells_eq _
  have h3 : [[C.sc (.int .i64 l.t.kind), .sl (eB l.t.key), .sl (eB l.t.value), .sl (eB l.t.digest), .sl (eT l.t.kids)], [C.sc (.int .i64 r.t.kind), .sl (eB r.t.key), .sl (eB r.t.value), .sl (eB r.t.digest), .sl (eT r.t.kids)]] = eT [l.t, r.t] := by rw [← h1, ← h2]; simp [eT_map]
  rw [avB_d]
  refine Ev_run t_ref05_Node rfl rfl ?_
  simp (maxSteps := 1000000) (disch := first | omega | (simp only [List.length_cons, List.length_nil, List.length_append, List.length_map, List.length_take, List.length_drop]; omega)) only [go_sem, ↓reduceIte, Nat.reduceSub, Nat.reduceAdd, Nat.reduceMul, Nat.reduceLeDiff, Nat.reduceLT, Nat.reduceEqDiff, Nat.reduceBEq, Int.reduceLE, Int.reduceLT, Int.reduceEq, Int.reduceNeg, Int.reduceAdd, Int.reduceSub, Int.reduceMul, Int.reduceToNat, i_ref05_Node, h3]
theorem ref05_right_ev (a : B) (ak av : List UInt8) (b : B) (k v : List UInt8) (c : B) : Ev tab G0 n_ref05_right [avB (.d (.d a ak av b) k v c)] [] = some ([avB (.d a ak av (.d b k v c))], []) := by
  have h1 := ref05_Node_ev b k v c
  have h2 := ref05_Node_ev a ak av (.d b k v c)
  simp only [avB_d] at *
  simp only [Bt_d] at *
  refine Ev_run t_ref05_right rfl rfl ?_
  simp (maxSteps := 1000000) (disch := first | omega | (simp only [List.length_cons, List.length_nil, List.length_append, List.length_map, List.length_take, List.length_drop]; omega)) only [go_sem, ↓reduceIte, Nat.reduceSub, Nat.reduceAdd, Nat.reduceMul, Nat.reduceLeDiff, Nat.reduceLT, Nat.reduceEqDiff, Nat.reduceBEq, Int.reduceLE, Int.reduceLT, Int.reduceEq, Int.reduceNeg, Int.reduceAdd, Int.reduceSub, Int.reduceMul, Int.reduceToNat, i_ref05_right, h1, h2]
theorem ref05_left_ev (a : B) (k v : List UInt8) (b : B) (ck cv : List UInt8) (c : B) : Ev tab G0 n_ref05_left [avB (.d a k v (.d b ck cv c))] [] = some ([avB (.d (.d a k v b) ck cv c)], []) := by
  have h1 := ref05_Node_ev a k v b
  have h2 := ref05_Node_ev (.d a k v b) ck cv c
  simp only [avB_d] at *
  simp only [Bt_d] at *
  refine Ev_run t_ref05_left rfl rfl ?_
  simp (maxSteps := 1000000) (disch := first | omega | (simp only [List.length_cons, List.length_nil, List.length_append, List.length_map, List.length_take, List.length_drop]; omega)) only [go_sem, ↓reduceIte, Nat.reduceSub, Nat.reduceAdd, Nat.reduceMul, Nat.reduceLeDiff, Nat.reduceLT, Nat.reduceEqDiff, Nat.reduceBEq, Int.reduceLE, Int.reduceLT, Int.reduceEq, Int.reduceNeg, Int.reduceAdd, Int.reduceSub, Int.reduceMul, Int.reduceToNat, i_ref05_left, h1, h2]
theorem ref04_DepthB (b : B) (hs : b.t.size ≤ 1048576) (ho : b.ok = true) : Ev tab G0 n_ref04_Depth [avB b] [] = some ([i64 b.depth], []) := by
  have h1 := ref04_Depth_ev b.t (Bt_formed b ho) hs
  rwa [Bt_depth] at h1

end Go.Proofs.YtebiajdkgpcidaaDoor
namespace Go.Proofs.YtebiajdkgpcidaaDoor
open Go.Ev

theorem ok_d {l r : B} {k v : List UInt8} : ((B.d l k v r).ok = true) = (l.ok = true ∧ r.ok = true ∧ k.length ≤ 80 ∧ v.length ≤ 1024) := by
  simp only [B.ok, Bool.and_eq_true, decide_eq_true_eq, and_assoc]
theorem ref05_tilt_ev (l : B) (k v : List UInt8) (r : B) (hs : (B.d l k v r).t.size ≤ 1048576) (ho : (B.d l k v r).ok = true) : Ev tab G0 n_ref05_tilt [avB (.d l k v r)] [] = some ([i64 (l.depth - r.depth)], []) := by
  rw [Bt_size] at hs
  rw [ok_d] at ho
  have h1 := ref04_DepthB l (by omega) ho.1
  have h2 := ref04_DepthB r (by omega) ho.2.1
  have b1 := Bd_nn l
  have b2 := Bd_nn r
  have b3 : l.depth ≤ 1048576 := by have := Bd_size l; omega
  have b4 : r.depth ≤ 1048576 := by have := Bd_size r; omega
  generalize l.depth = x at *
  generalize r.depth = y at *
  simp only [avB_d] at *
  refine Ev_run t_ref05_tilt rfl rfl ?_
  simp (maxSteps := 1000000) (disch := first | omega | (simp only [List.length_cons, List.length_nil, List.length_append, List.length_map, List.length_take, List.length_drop]; omega)) only [go_sem, ↓reduceIte, Nat.reduceSub, Nat.reduceAdd, Nat.reduceMul, Nat.reduceLeDiff, Nat.reduceLT, Nat.reduceEqDiff, Nat.reduceBEq, Int.reduceLE, Int.reduceLT, Int.reduceEq, Int.reduceNeg, Int.reduceAdd, Int.reduceSub, Int.reduceMul, Int.reduceToNat, i_ref05_tilt, h1, h2]
theorem ref05_level_ev (l : B) (k v : List UInt8) (r : B) (hs : (B.d l k v r).t.size ≤ 1048576) (ho : (B.d l k v r).ok = true) (d1 : l.depth - r.depth ≤ 2) (d2 : r.depth - l.depth ≤ 2) : Ev tab G0 n_ref05_level [avB (.d l k v r)] [] = some ([avB (lev l k v r)], []) := by
  have h1 := ref05_tilt_ev l k v r hs ho
  have hs0 := hs
  rw [Bt_size] at hs
  rw [ok_d] at ho
  obtain ⟨ol, or', hk, hv⟩ := ho
  have b1 := Bd_nn l
  have b2 := Bd_nn r
  unfold lev
  by_cases c1 : 1 < l.depth - r.depth
  · rw [if_pos c1]
    obtain ⟨ll, lk, lv, lr, rfl⟩ := depth_pos (b := l) (by omega)
    have h3 := ref05_tilt_ev ll lk lv lr (by omega) ol
    have b5 := Bd_nn ll
    have b6 := Bd_nn lr
    generalize hd1 : (B.d ll lk lv lr).depth = x at *
    generalize hd2 : r.depth = y at *
    by_cases c2 : ll.depth < lr.depth
    · obtain ⟨a, ck, cv, c, rfl⟩ := depth_pos (b := lr) (by omega)
      have e : (B.d ll lk lv (.d a ck cv c)).lt = true := decide_eq_true c2
      rw [if_pos e]
      have h5 := ref05_left_ev ll lk lv a ck cv c
      have h6 := ref05_Node_ev (.d (.d ll lk lv a) ck cv c) k v r
      have h7 := ref05_right_ev (.d ll lk lv a) ck cv c k v r
      generalize hd3 : (B.d a ck cv c).depth = z at *
      generalize hd4 : ll.depth = u at *
      simp only [rotL, rotR]
      simp only [avB_d] at *
      simp only [Bt_d] at *
      refine Ev_run t_ref05_level rfl rfl ?_
      simp (maxSteps := 1000000) (disch := first | omega | (simp only [List.length_cons, List.length_nil, List.length_append, List.length_map, List.length_take, List.length_drop]; omega)) only [go_sem, ↓reduceIte, Nat.reduceSub, Nat.reduceAdd, Nat.reduceMul, Nat.reduceLeDiff, Nat.reduceLT, Nat.reduceEqDiff, Nat.reduceBEq, Int.reduceLE, Int.reduceLT, Int.reduceEq, Int.reduceNeg, Int.reduceAdd, Int.reduceSub, Int.reduceMul, Int.reduceToNat, i_ref05_level, h1, h3, h5, h6, h7]
    · have e : ¬ (B.d ll lk lv lr).lt = true := by simp only [B.lt, decide_eq_true_eq]; exact c2
      rw [if_neg e]
      have h7 := ref05_right_ev ll lk lv lr k v r
      generalize hd3 : lr.depth = z at *
      generalize hd4 : ll.depth = u at *
      simp only [rotR]
      simp only [avB_d] at *
      simp only [Bt_d] at *
      refine Ev_run t_ref05_level rfl rfl ?_
      simp (maxSteps := 1000000) (disch := first | omega | (simp only [List.length_cons, List.length_nil, List.length_append, List.length_map, List.length_take, List.length_drop]; omega)) only [go_sem, ↓reduceIte, Nat.reduceSub, Nat.reduceAdd, Nat.reduceMul, Nat.reduceLeDiff, Nat.reduceLT, Nat.reduceEqDiff, Nat.reduceBEq, Int.reduceLE, Int.reduceLT, Int.reduceEq, Int.reduceNeg, Int.reduceAdd, Int.reduceSub, Int.reduceMul, Int.reduceToNat, i_ref05_level, h1, h3, h7]
  · rw [if_neg c1]
    by_cases c3 : l.depth - r.depth < -1
    · rw [if_pos c3]
      obtain ⟨rl, rk, rv, rr, rfl⟩ := depth_pos (b := r) (by omega)
      have h3 := ref05_tilt_ev rl rk rv rr (by omega) or'
      have b5 := Bd_nn rl
      have b6 := Bd_nn rr
      generalize hd1 : (B.d rl rk rv rr).depth = x at *
      generalize hd2 : l.depth = y at *
      by_cases c2 : rr.depth < rl.depth
      · obtain ⟨a, ck, cv, c, rfl⟩ := depth_pos (b := rl) (by omega)
        have e : (B.d (.d a ck cv c) rk rv rr).gt = true := decide_eq_true c2
        rw [if_pos e]
        have h5 := ref05_right_ev a ck cv c rk rv rr
        have h6 := ref05_Node_ev l k v (.d a ck cv (.d c rk rv rr))
        have h7 := ref05_left_ev l k v a ck cv (.d c rk rv rr)
        generalize hd3 : (B.d a ck cv c).depth = z at *
        generalize hd4 : rr.depth = u at *
        simp only [rotL, rotR]
        simp only [avB_d] at *
        simp only [Bt_d] at *
        refine Ev_run t_ref05_level rfl rfl ?_
        simp (maxSteps := 1000000) (disch := first | omega | (simp only [List.length_cons, List.length_nil, List.length_append, List.length_map, List.length_take, List.length_drop]; omega)) only [go_sem, ↓reduceIte, Nat.reduceSub, Nat.reduceAdd, Nat.reduceMul, Nat.reduceLeDiff, Nat.reduceLT, Nat.reduceEqDiff, Nat.reduceBEq, Int.reduceLE, Int.reduceLT, Int.reduceEq, Int.reduceNeg, Int.reduceAdd, Int.reduceSub, Int.reduceMul, Int.reduceToNat, i_ref05_level, h1, h3, h5, h6, h7]
      · have e : ¬ (B.d rl rk rv rr).gt = true := by simp only [B.gt, decide_eq_true_eq]; exact c2
        rw [if_neg e]
        have h7 := ref05_left_ev l k v rl rk rv rr
        generalize hd3 : rl.depth = z at *
        generalize hd4 : rr.depth = u at *
        simp only [rotL]
        simp only [avB_d] at *
        simp only [Bt_d] at *
        refine Ev_run t_ref05_level rfl rfl ?_
        simp (maxSteps := 1000000) (disch := first | omega | (simp only [List.length_cons, List.length_nil, List.length_append, List.length_map, List.length_take, List.length_drop]; omega)) only [go_sem, ↓reduceIte, Nat.reduceSub, Nat.reduceAdd, Nat.reduceMul, Nat.reduceLeDiff, Nat.reduceLT, Nat.reduceEqDiff, Nat.reduceBEq, Int.reduceLE, Int.reduceLT, Int.reduceEq, Int.reduceNeg, Int.reduceAdd, Int.reduceSub, Int.reduceMul, Int.reduceToNat, i_ref05_level, h1, h3, h7]
    · rw [if_neg c3]
      generalize hd1 : r.depth = x at *
      generalize hd2 : l.depth = y at *
      simp only [avB_d] at *
      refine Ev_run t_ref05_level rfl rfl ?_
      simp (maxSteps := 1000000) (disch := first | omega | (simp only [List.length_cons, List.length_nil, List.length_append, List.length_map, List.length_take, List.length_drop]; omega)) only [go_sem, ↓reduceIte, Nat.reduceSub, Nat.reduceAdd, Nat.reduceMul, Nat.reduceLeDiff, Nat.reduceLT, Nat.reduceEqDiff, Nat.reduceBEq, Int.reduceLE, Int.reduceLT, Int.reduceEq, Int.reduceNeg, Int.reduceAdd, Int.reduceSub, Int.reduceMul, Int.reduceToNat, i_ref05_level, h1]

end Go.Proofs.YtebiajdkgpcidaaDoor
namespace Go.Proofs.YtebiajdkgpcidaaDoor
open Go.Ev

def B.put : B → List UInt8 → List UInt8 → B
  | .n, k, v => .d .n k v .n
  | .d l a b r, k, v => if cmp k a = 0 then .d l a v r else if cmp k a < 0 then lev (l.put k v) a b r else lev l a b (r.put k v)
theorem rotR_size (l : B) (k v : List UInt8) (r : B) : (rotR (.d l k v r)).t.size = (B.d l k v r).t.size := by
  cases l with
  | n => rfl
  | d a b c e => simp only [rotR, Bt_size]; omega
theorem rotL_size (l : B) (k v : List UInt8) (r : B) : (rotL (.d l k v r)).t.size = (B.d l k v r).t.size := by
  cases r with
  | n => rfl
  | d a b c e => simp only [rotL, Bt_size]; omega
theorem lev_size (l : B) (k v : List UInt8) (r : B) : (lev l k v r).t.size = (B.d l k v r).t.size := by
  unfold lev
  split
  · rw [rotR_size, Bt_size, Bt_size]
    split
    · cases l with
      | n => rfl
      | d a b c e => rw [rotL_size]
    · rfl
  · split
    · rw [rotL_size, Bt_size, Bt_size]
      split
      · cases r with
        | n => rfl
        | d a b c e => rw [rotR_size]
      · rfl
    · rfl
theorem put_size : ∀ (b : B) (k v : List UInt8), (b.put k v).t.size ≤ b.t.size + k.length + v.length + 2
  | .n, k, v => by simp only [B.put, Bt_size, Bn_size]; omega
  | .d l a b r, k, v => by
    have h1 := put_size l k v
    have h2 := put_size r k v
    simp only [B.put]
    split
    · simp only [Bt_size]; omega
    · split
      · rw [lev_size]; simp only [Bt_size]; omega
      · rw [lev_size]; simp only [Bt_size]; omega
theorem put_ok : ∀ (b : B) (k v : List UInt8), b.ok = true → k.length ≤ 80 → v.length ≤ 1024 → (b.put k v).ok = true
  | .n, k, v, _, hk, hv => by simp only [B.put, ok_d]; exact ⟨rfl, rfl, hk, hv⟩
  | .d l a b r, k, v, h, hk, hv => by
    rw [ok_d] at h
    obtain ⟨h1, h2, h3, h4⟩ := h
    have i1 := put_ok l k v h1 hk hv
    have i2 := put_ok r k v h2 hk hv
    simp only [B.put]
    split
    · rw [ok_d]; exact ⟨h1, h2, h3, hv⟩
    · split
      · rw [lev_ok, ok_d]; exact ⟨i1, h2, h3, h4⟩
      · rw [lev_ok, ok_d]; exact ⟨h1, i2, h3, h4⟩
theorem put_bal : ∀ (b : B) (k v : List UInt8), b.bal = true → (b.put k v).bal = true ∧ b.depth ≤ (b.put k v).depth ∧ (b.put k v).depth ≤ b.depth + 1
  | .n, k, v, _ => ⟨rfl, by simp [B.put, B.depth], by simp [B.put, B.depth]⟩
  | .d l a b r, k, v, h => by
    rw [bal_d] at h
    obtain ⟨h1, h2, h3, h4⟩ := h
    obtain ⟨i1, i2, i3⟩ := put_bal l k v h1
    obtain ⟨j1, j2, j3⟩ := put_bal r k v h2
    simp only [B.put]
    split
    · rw [bal_d]; simp only [B.depth]; exact ⟨⟨h1, h2, h3, h4⟩, by omega, by omega⟩
    · split
      · obtain ⟨e1, e2, e3, e4⟩ := lev_bal (l.put k v) a b r i1 h2 (by omega) (by omega)
        refine ⟨e1, ?_, ?_⟩
        · simp only [B.depth] at *
          by_cases c : (l.put k v).depth - r.depth ≤ 1
          · have := e4 c (by omega); omega
          · omega
        · simp only [B.depth] at *
          by_cases c : (l.put k v).depth - r.depth ≤ 1
          · have := e4 c (by omega); omega
          · omega
      · obtain ⟨e1, e2, e3, e4⟩ := lev_bal l a b (r.put k v) h1 j1 (by omega) (by omega)
        refine ⟨e1, ?_, ?_⟩
        · simp only [B.depth] at *
          by_cases c : (r.put k v).depth - l.depth ≤ 1
          · have := e4 (by omega) c; omega
          · omega
        · simp only [B.depth] at *
          by_cases c : (r.put k v).depth - l.depth ≤ 1
          · have := e4 (by omega) c; omega
          · omega
theorem avB_n : avB .n = .agg [i64 0, .sl true [], .sl true [], .sl true [], .sl true []] := by
  simp only [avB, avT, Bt_n, no_kind, no_key, no_value, no_digest, no_kids, eB_nil, eT_nil]
theorem ref05_Put_ev : ∀ (b : B) (k v : List UInt8), b.ok = true → b.bal = true → k.length ≤ 80 → v.length ≤ 1024 → b.t.size + k.length + v.length + 2 ≤ 1048576 → Ev tab G0 n_ref05_Put [avB b, .sl true (eB k), .sl true (eB v)] [] = some ([avB (b.put k v)], [])
  | .n, k, v, ho, hb, hk, hv, hs => by
    have h1 := ref05_Node_ev .n k v .n
    simp only [B.put]
    simp only [avB_d, avB_n] at *
    simp only [Bt_d, Bt_n] at *
    refine Ev_run t_ref05_Put rfl rfl ?_
    simp (maxSteps := 1000000) (disch := first | omega | (simp only [List.length_cons, List.length_nil, List.length_append, List.length_map, List.length_take, List.length_drop]; omega)) only [go_sem, ↓reduceIte, Nat.reduceSub, Nat.reduceAdd, Nat.reduceMul, Nat.reduceLeDiff, Nat.reduceLT, Nat.reduceEqDiff, Nat.reduceBEq, Int.reduceLE, Int.reduceLT, Int.reduceEq, Int.reduceNeg, Int.reduceAdd, Int.reduceSub, Int.reduceMul, Int.reduceToNat, i_ref05_Put, h1]
  | .d l a b r, k, v, ho, hb, hk, hv, hs => by
    rw [ok_d] at ho
    obtain ⟨o1, o2, o3, o4⟩ := ho
    rw [bal_d] at hb
    obtain ⟨g1, g2, g3, g4⟩ := hb
    rw [Bt_size] at hs
    simp only [B.put]
    by_cases c1 : cmp k a = 0
    · rw [if_pos c1]
      have hka := cmp_eq k a c1
      subst hka
      have h1 := ref05_Node_ev l k v r
      simp only [avB_d] at *
      refine Ev_run t_ref05_Put rfl rfl ?_
      simp (maxSteps := 1000000) (disch := first | omega | (simp only [List.length_cons, List.length_nil, List.length_append, List.length_map, List.length_take, List.length_drop]; omega)) only [go_sem, ↓reduceIte, Nat.reduceSub, Nat.reduceAdd, Nat.reduceMul, Nat.reduceLeDiff, Nat.reduceLT, Nat.reduceEqDiff, Nat.reduceBEq, Int.reduceLE, Int.reduceLT, Int.reduceEq, Int.reduceNeg, Int.reduceAdd, Int.reduceSub, Int.reduceMul, Int.reduceToNat, i_ref05_Put, eq_cmp, h1]
    · rw [if_neg c1]
      by_cases c2 : cmp k a < 0
      · rw [if_pos c2]
        have h1 := ref05_Put_ev l k v o1 g1 hk hv (by omega)
        have h2 := ref05_Node_ev (l.put k v) a b r
        have hps := put_size l k v
        have hpb := put_bal l k v g1
        have h3 := ref05_level_ev (l.put k v) a b r (by rw [Bt_size]; omega) (by rw [ok_d]; exact ⟨put_ok l k v o1 hk hv, o2, o3, o4⟩) (by omega) (by omega)
        generalize l.put k v = p at *
        generalize lev p a b r = q at *
        simp only [avB_d] at *
        refine Ev_run t_ref05_Put rfl rfl ?_
        simp (maxSteps := 1000000) (disch := first | omega | (simp only [List.length_cons, List.length_nil, List.length_append, List.length_map, List.length_take, List.length_drop]; omega)) only [go_sem, ↓reduceIte, Nat.reduceSub, Nat.reduceAdd, Nat.reduceMul, Nat.reduceLeDiff, Nat.reduceLT, Nat.reduceEqDiff, Nat.reduceBEq, Int.reduceLE, Int.reduceLT, Int.reduceEq, Int.reduceNeg, Int.reduceAdd, Int.reduceSub, Int.reduceMul, Int.reduceToNat, i_ref05_Put, eq_cmp, less_cmp, h1, h2, h3]
      · rw [if_neg c2]
        have h1 := ref05_Put_ev r k v o2 g2 hk hv (by omega)
        have h2 := ref05_Node_ev l a b (r.put k v)
        have hps := put_size r k v
        have hpb := put_bal r k v g2
        have h3 := ref05_level_ev l a b (r.put k v) (by rw [Bt_size]; omega) (by rw [ok_d]; exact ⟨o1, put_ok r k v o2 hk hv, o3, o4⟩) (by omega) (by omega)
        generalize r.put k v = p at *
        generalize lev l a b p = q at *
        simp only [avB_d] at *
        refine Ev_run t_ref05_Put rfl rfl ?_
        simp (maxSteps := 1000000) (disch := first | omega | (simp only [List.length_cons, List.length_nil, List.length_append, List.length_map, List.length_take, List.length_drop]; omega)) only [go_sem, ↓reduceIte, Nat.reduceSub, Nat.reduceAdd, Nat.reduceMul, Nat.reduceLeDiff, Nat.reduceLT, Nat.reduceEqDiff, Nat.reduceBEq, Int.reduceLE, Int.reduceLT, Int.reduceEq, Int.reduceNeg, Int.reduceAdd, Int.reduceSub, Int.reduceMul, Int.reduceToNat, i_ref05_Put, eq_cmp, less_cmp, h1, h2, h3]

end Go.Proofs.YtebiajdkgpcidaaDoor
namespace Go.Proofs.YtebiajdkgpcidaaDoor
open Go.Ev

abbrev KV := List UInt8 × List UInt8
/-- Are pairs in order? -/
def srtP (l : List KV) : Prop := l.Pairwise fun x y => cmp x.1 y.1 < 0
def B.isN : B → Bool
  | .n => true
  | _ => false
def B.least : B → KV
  | .n => ([], [])
  | .d l k v _ => if l.isN = true then (k, v) else l.least
def B.take : B → List UInt8 → B
  | .n, _ => .n
  | .d l a b r, k => if cmp k a < 0 then lev (l.take k) a b r else if 0 < cmp k a then lev l a b (r.take k) else if l.isN = true then r else if r.isN = true then l else lev l r.least.1 r.least.2 (r.take r.least.1)
theorem isN_eq {b : B} (h : b.isN = true) : b = .n := by cases b <;> simp [B.isN] at h; rfl
theorem isN_ne {b : B} (h : ¬ b.isN = true) : ∃ l k v r, b = .d l k v r := by
  cases b with
  | n => simp [B.isN] at h
  | d l k v r => exact ⟨l, k, v, r, rfl⟩
/-- A tree's size, by its pairs. -/
def sumP : List KV → Nat
  | [] => 0
  | x :: l => x.1.length + x.2.length + 2 + sumP l
theorem sumP_app (a b : List KV) : sumP (a ++ b) = sumP a + sumP b := by
  induction a with
  | nil => simp [sumP]
  | cons x a ih => simp only [List.cons_append, sumP, ih]; omega
theorem size_sum : ∀ b : B, b.t.size = 1 + sumP b.list
  | .n => rfl
  | .d l k v r => by
    rw [Bt_size, size_sum l, size_sum r]
    simp only [B.list, sumP_app, sumP]
    omega
theorem sumP_filter (p : KV → Bool) : ∀ l : List KV, sumP (l.filter p) ≤ sumP l
  | [] => Nat.le_refl _
  | x :: l => by
    have := sumP_filter p l
    rw [List.filter_cons]
    split <;> simp only [sumP] <;> omega
theorem srt_d {l r : B} {k v : List UInt8} (h : srtP (B.d l k v r).list) : srtP l.list ∧ srtP r.list ∧ (∀ x ∈ l.list, cmp x.1 k < 0) ∧ (∀ x ∈ r.list, cmp k x.1 < 0) := by
  unfold srtP at *
  simp only [B.list, List.pairwise_append, List.pairwise_cons, List.mem_cons] at h
  obtain ⟨h1, ⟨h2, h3⟩, h4⟩ := h
  exact ⟨h1, h3, fun x hx => h4 x hx (k, v) (.inl rfl), fun x hx => h2 x hx⟩
theorem least_list : ∀ b : B, b.isN = false → ∃ q, b.list = b.least :: q
  | .n, h => by simp [B.isN] at h
  | .d l k v r, _ => by
    by_cases c : l.isN = true
    · have := isN_eq c
      subst this
      exact ⟨r.list, by simp [B.list, B.least, B.isN]⟩
    · obtain ⟨q, hq⟩ := least_list l (by simpa using c)
      refine ⟨q ++ (k, v) :: r.list, ?_⟩
      simp only [B.list, B.least, c, if_false, hq, List.cons_append]
      simp
theorem filter_all {p : KV → Bool} {l : List KV} (h : ∀ x ∈ l, p x = true) : l.filter p = l := List.filter_eq_self.2 h
theorem take_list : ∀ (b : B) (k : List UInt8), srtP b.list → (b.take k).list = b.list.filter fun x => !decide (cmp x.1 k = 0)
  | .n, k, _ => rfl
  | .d l a b r, k, h => by
    obtain ⟨h1, h2, h3, h4⟩ := srt_d h
    have i1 := take_list l k h1
    have i2 := take_list r k h2
    have sw := cmp_swap k a
    have hr : cmp k a ≤ 0 → ∀ x ∈ r.list, (!decide (cmp x.1 k = 0)) = true := fun hc x hx => by
      have := h4 x hx
      have s2 := cmp_swap x.1 k
      have := cmp_trans k a x.1 hc (by omega)
      simp only [Bool.not_eq_true', decide_eq_false_iff_not]
      omega
    have hl : 0 ≤ cmp k a → ∀ x ∈ l.list, (!decide (cmp x.1 k = 0)) = true := fun hc x hx => by
      have := h3 x hx
      have := cmp_trans x.1 a k (by omega) (by omega)
      simp only [Bool.not_eq_true', decide_eq_false_iff_not]
      omega
    simp only [B.take, B.list, List.filter_append, List.filter_cons]
    by_cases c1 : cmp k a < 0
    · rw [if_pos c1, lev_list, i1, filter_all (hr (by omega)), if_pos (by simp; omega)]
    · rw [if_neg c1]
      by_cases c2 : 0 < cmp k a
      · rw [if_pos c2, lev_list, i2, filter_all (hl (by omega)), if_pos (by simp; omega)]
      · have e : decide (cmp a k = 0) = true := decide_eq_true (by omega)
        rw [if_neg c2, filter_all (hl (by omega)), filter_all (hr (by omega)), e]
        simp only [Bool.not_true, Bool.false_eq_true, if_false]
        by_cases c3 : l.isN = true
        · rw [if_pos c3]
          have := isN_eq c3
          subst this
          simp [B.list]
        · rw [if_neg c3]
          by_cases c4 : r.isN = true
          · rw [if_pos c4]
            have := isN_eq c4
            subst this
            simp [B.list]
          · rw [if_neg c4, lev_list, take_list r r.least.1 h2]
            obtain ⟨q, hq⟩ := least_list r (by simpa using c4)
            have hs := h2
            rw [hq] at hs
            unfold srtP at hs
            rw [List.pairwise_cons] at hs
            congr 1
            rw [hq, List.filter_cons, if_neg (by simp [cmp_self])]
            congr 1
            exact filter_all fun x hx => by
              have := hs.1 x hx
              have s2 := cmp_swap x.1 r.least.1
              simp only [Bool.not_eq_true', decide_eq_false_iff_not]
              omega
theorem take_size (b : B) (k : List UInt8) (h : srtP b.list) : (b.take k).t.size ≤ b.t.size := by
  rw [size_sum, size_sum, take_list b k h]
  exact Nat.add_le_add_left (sumP_filter _ _) _
/-- Keys and values short enough, by pairs. -/
theorem ok_list : ∀ b : B, b.ok = true ↔ ∀ x ∈ b.list, x.1.length ≤ 80 ∧ x.2.length ≤ 1024
  | .n => by simp [B.ok, B.list]
  | .d l k v r => by
    rw [ok_d, ok_list l, ok_list r]
    simp only [B.list, List.mem_append, List.mem_cons]
    constructor
    · rintro ⟨h1, h2, h3, h4⟩ x (hx | rfl | hx)
      · exact h1 x hx
      · exact ⟨h3, h4⟩
      · exact h2 x hx
    · intro h
      exact ⟨fun x hx => h x (.inl hx), fun x hx => h x (.inr (.inr hx)), (h (k, v) (.inr (.inl rfl))).1, (h (k, v) (.inr (.inl rfl))).2⟩
theorem take_ok (b : B) (k : List UInt8) (h : srtP b.list) (ho : b.ok = true) : (b.take k).ok = true := by
  rw [ok_list] at *
  rw [take_list b k h]
  exact fun x hx => ho x (List.mem_filter.1 hx).1
theorem take_srt (b : B) (k : List UInt8) (h : srtP b.list) : srtP (b.take k).list := by
  rw [take_list b k h]
  exact h.filter _
theorem take_bal : ∀ (b : B) (k : List UInt8), b.bal = true → (b.take k).bal = true ∧ b.depth - 1 ≤ (b.take k).depth ∧ (b.take k).depth ≤ b.depth
  | .n, k, _ => ⟨rfl, by simp [B.take, B.depth], by simp [B.take, B.depth]⟩
  | .d l a b r, k, h => by
    rw [bal_d] at h
    obtain ⟨h1, h2, h3, h4⟩ := h
    obtain ⟨i1, i2, i3⟩ := take_bal l k h1
    obtain ⟨j1, j2, j3⟩ := take_bal r k h2
    obtain ⟨q1, q2, q3⟩ := take_bal r r.least.1 h2
    have n1 := Bd_nn l
    have n2 := Bd_nn r
    simp only [B.take]
    split
    · obtain ⟨e1, e2, e3, e4⟩ := lev_bal (l.take k) a b r i1 h2 (by omega) (by omega)
      refine ⟨e1, ?_, ?_⟩ <;> simp only [B.depth] at *
      · omega
      · by_cases c : r.depth - (l.take k).depth ≤ 1
        · have := e4 (by omega) c; omega
        · omega
    · split
      · obtain ⟨e1, e2, e3, e4⟩ := lev_bal l a b (r.take k) h1 j1 (by omega) (by omega)
        refine ⟨e1, ?_, ?_⟩ <;> simp only [B.depth] at *
        · omega
        · by_cases c : l.depth - (r.take k).depth ≤ 1
          · have := e4 c (by omega); omega
          · omega
      · split
        · rename_i c
          have := isN_eq c
          subst this
          simp only [B.depth] at *
          exact ⟨h2, by omega, by omega⟩
        · split
          · rename_i c
            have := isN_eq c
            subst this
            simp only [B.depth] at *
            exact ⟨h1, by omega, by omega⟩
          · obtain ⟨e1, e2, e3, e4⟩ := lev_bal l r.least.1 r.least.2 (r.take r.least.1) h1 q1 (by omega) (by omega)
            refine ⟨e1, ?_, ?_⟩ <;> simp only [B.depth] at *
            · omega
            · by_cases c : l.depth - (r.take r.least.1).depth ≤ 1
              · have := e4 c (by omega); omega
              · omega
/-! ### What is there -/
def B.get : B → List UInt8 → Option (List UInt8)
  | .n, _ => none
  | .d l a b r, k => if cmp k a = 0 then some b else if cmp k a < 0 then l.get k else r.get k
def getP (l : List KV) (k : List UInt8) : Option (List UInt8) := (l.find? fun x => decide (cmp x.1 k = 0)).map (·.2)
theorem get_list : ∀ (b : B) (k : List UInt8), srtP b.list → b.get k = getP b.list k
  | .n, k, _ => rfl
  | .d l a b r, k, h => by
    obtain ⟨h1, h2, h3, h4⟩ := srt_d h
    have i1 := get_list l k h1
    have i2 := get_list r k h2
    have sw := cmp_swap k a
    have hr : cmp k a < 0 → r.list.find? (fun x => decide (cmp x.1 k = 0)) = none := fun hc => by
      rw [List.find?_eq_none]
      intro x hx
      have := h4 x hx
      have s2 := cmp_swap x.1 k
      have := cmp_trans k a x.1 (by omega) (by omega)
      simp only [decide_eq_true_eq]
      omega
    have hl : 0 ≤ cmp k a → l.list.find? (fun x => decide (cmp x.1 k = 0)) = none := fun hc => by
      rw [List.find?_eq_none]
      intro x hx
      have := h3 x hx
      have := cmp_trans x.1 a k (by omega) (by omega)
      simp only [decide_eq_true_eq]
      omega
    simp only [B.get, getP, B.list, List.find?_append, List.find?_cons] at *
    by_cases c1 : cmp k a = 0
    · have e : decide (cmp a k = 0) = true := decide_eq_true (by omega)
      rw [if_pos c1, hl (by omega), e]
      rfl
    · have e : decide (cmp a k = 0) = false := decide_eq_false (by omega)
      rw [if_neg c1, e]
      by_cases c2 : cmp k a < 0
      · rw [if_pos c2, i1, hr c2]
        simp
      · rw [if_neg c2, i2, hl (by omega)]
        simp
/-- Put in among pairs. -/
def insP (k v : List UInt8) : List KV → List KV
  | [] => [(k, v)]
  | (a, b) :: l => if cmp k a = 0 then (a, v) :: l else if cmp k a < 0 then (k, v) :: (a, b) :: l else (a, b) :: insP k v l
theorem insP_l (k v a b : List UInt8) (c : cmp k a < 0) (R : List KV) : ∀ L : List KV, insP k v (L ++ (a, b) :: R) = insP k v L ++ (a, b) :: R
  | [] => by simp only [List.nil_append, insP]; rw [if_neg (by omega), if_pos c]; rfl
  | (x, y) :: L => by
    simp only [List.cons_append, insP]
    rw [insP_l k v a b c R L]
    split
    · rfl
    · split <;> rfl
theorem insP_r (k v a b : List UInt8) (c : 0 ≤ cmp k a) (R : List KV) : ∀ L : List KV, (∀ x ∈ L, cmp x.1 a < 0) → insP k v (L ++ (a, b) :: R) = L ++ insP k v ((a, b) :: R)
  | [], _ => rfl
  | (x, y) :: L, h => by
    have h0 : cmp x a < 0 := h (x, y) (by simp)
    have sw := cmp_swap k a
    have sw2 := cmp_swap x k
    have := cmp_trans x a k (by omega) (by omega)
    simp only [List.cons_append, insP]
    rw [if_neg (by omega), if_neg (by omega), insP_r k v a b c R L fun z hz => h z (by simp [hz])]
    rfl
theorem put_list : ∀ (b : B) (k v : List UInt8), srtP b.list → (b.put k v).list = insP k v b.list
  | .n, k, v, _ => rfl
  | .d l a b r, k, v, h => by
    obtain ⟨h1, h2, h3, h4⟩ := srt_d h
    have i1 := put_list l k v h1
    have i2 := put_list r k v h2
    simp only [B.put]
    by_cases c1 : cmp k a = 0
    · rw [if_pos c1]
      simp only [B.list]
      rw [insP_r k v a b (by omega) _ _ h3]
      simp only [insP, if_pos c1]
    · rw [if_neg c1]
      by_cases c2 : cmp k a < 0
      · rw [if_pos c2, lev_list, i1]
        simp only [B.list]
        rw [insP_l k v a b c2]
      · rw [if_neg c2, lev_list, i2]
        simp only [B.list]
        rw [insP_r k v a b (by omega) _ _ h3]
        simp only [insP, if_neg c1, if_neg c2]
theorem insP_mem {k v : List UInt8} {x : KV} : ∀ {l : List KV}, x ∈ insP k v l → x ∈ l ∨ cmp k x.1 = 0 ∧ x.2 = v
  | [], h => by simp [insP] at h; subst h; exact .inr ⟨cmp_self k, rfl⟩
  | (a, b) :: l, h => by
    simp only [insP] at h
    split at h
    · rename_i c
      rcases List.mem_cons.1 h with rfl | h
      · exact .inr ⟨c, rfl⟩
      · exact .inl (by simp [h])
    · split at h
      · rcases List.mem_cons.1 h with rfl | h
        · exact .inr ⟨cmp_self k, rfl⟩
        · exact .inl h
      · rcases List.mem_cons.1 h with rfl | h
        · exact .inl (by simp)
        · rcases insP_mem h with h | h
          · exact .inl (by simp [h])
          · exact .inr h
theorem cmp_zero {a b : List UInt8} (h : cmp a b = 0) : a = b := cmp_eq a b h
theorem insP_srt (k v : List UInt8) : ∀ l : List KV, srtP l → srtP (insP k v l)
  | [], _ => by simp [insP, srtP]
  | (a, b) :: l, h => by
    unfold srtP at h
    rw [List.pairwise_cons] at h
    have ih := insP_srt k v l h.2
    simp only [insP]
    split
    · exact List.pairwise_cons.2 ⟨h.1, h.2⟩
    · split
      · rename_i c
        refine List.pairwise_cons.2 ⟨fun x hx => ?_, List.pairwise_cons.2 h⟩
        rcases List.mem_cons.1 hx with rfl | hx
        · exact c
        · have h1 : cmp a x.1 < 0 := h.1 x hx
          have := cmp_trans k a x.1 (by omega) (by omega)
          show cmp k x.1 < 0
          omega
      · rename_i c1 c2
        refine List.pairwise_cons.2 ⟨fun x hx => ?_, ih⟩
        rcases insP_mem hx with hx | ⟨hx, _⟩
        · exact h.1 x hx
        · have := cmp_zero hx
          rw [← this]
          have := cmp_swap k a
          show cmp a k < 0
          omega
theorem put_srt (b : B) (k v : List UInt8) (h : srtP b.list) : srtP (b.put k v).list := by
  rw [put_list b k v h]
  exact insP_srt k v _ h

end Go.Proofs.YtebiajdkgpcidaaDoor
namespace Go.Proofs.YtebiajdkgpcidaaDoor
open Go.Ev

theorem eT_nn : eT [T.no, T.no] = eT [B.n.t, B.n.t] := rfl
theorem avB_no : avT T.no = .agg [i64 0, .sl true [], .sl true [], .sl true [], .sl true []] := by
  simp only [avT, no_kind, no_key, no_value, no_digest, no_kids, eB_nil, eT_nil]
theorem cells_d1 {t : T} : t.cells.drop 1 = [.sl (eB t.key), .sl (eB t.value), .sl (eB t.digest), .sl (eT t.kids)] := by rw [cells_eq]; rfl
theorem cells_d2 {t : T} : t.cells.drop 2 = [.sl (eB t.value), .sl (eB t.digest), .sl (eT t.kids)] := by rw [cells_eq]; rfl
theorem cells_d4 {t : T} : t.cells.drop 4 = [.sl (eT t.kids)] := by rw [cells_eq]; rfl
attribute [go_sem] cells_d1 cells_d2 cells_d4
theorem isN_n : B.n.isN = true := rfl
theorem isN_d {l r : B} {k v : List UInt8} : ¬ (B.d l k v r).isN = true := by simp [B.isN]
abbrev oZ5 : Ev.Obj := .var [i64 0, .nilsl, .nilsl, .nilsl, .nilsl]
/-! ### The document's -/
theorem Bt_list : ∀ b : B, b.t.list.map (fun t => (t.key, t.value)) = b.list
  | .n => rfl
  | .d l k v r => by
    rw [list_two Bt_kids, List.map_append, List.map_cons, Bt_list l, Bt_list r]
    rfl
theorem Bt_list_len (b : B) : b.t.list.length = b.list.length := by rw [← Bt_list, List.length_map]
theorem least_t (b : B) (h : b.isN = false) : ∃ u q, b.t.list = u :: q ∧ u.key = b.least.1 ∧ u.value = b.least.2 := by
  obtain ⟨q, hq⟩ := least_list b h
  have := Bt_list b
  rw [hq] at this
  cases hl : b.t.list with
  | nil => rw [hl] at this; simp at this
  | cons u w =>
    rw [hl] at this
    simp only [List.map_cons, List.cons.injEq] at this
    exact ⟨u, w, rfl, by rw [← this.1], by rw [← this.1]⟩
end Go.Proofs.YtebiajdkgpcidaaDoor
namespace Go.Proofs.YtebiajdkgpcidaaDoor
open Go.Ev

def srtT : List T → Bool
  | a :: b :: l => decide (cmp a.key b.key < 0) && srtT (b :: l)
  | _ => true
def evn (u : T) : Bool := decide ((u.kids.getD 0 .no).depth - (u.kids.getD 1 .no).depth ≤ 1) && decide (-1 ≤ (u.kids.getD 0 .no).depth - (u.kids.getD 1 .no).depth)
def T.isA (t : T) : Bool := decide (t.chk = 0) && t.full && (srtT t.list && t.bal)
theorem list_mem : ∀ t : T, t.formed = true → ∀ u ∈ t.list, u.formed = true ∧ u.size ≤ t.size ∧ ∃ l r, u.kids = [l, r] ∧ l.formed = true ∧ r.formed = true := F_ind (fun t _ h u hu => by rw [list_nil h] at hu; simp at hu)
  fun t l r hf h hl hr h1 h2 u hu => by
    have hs := size_two h
    rw [list_two h] at hu
    rcases List.mem_append.1 hu with hu | hu
    · obtain ⟨a, b, c⟩ := h1 u hu
      exact ⟨a, by omega, c⟩
    · rcases List.mem_cons.1 hu with rfl | hu
      · exact ⟨hf, Nat.le_refl _, l, r, h, hl, hr⟩
      · obtain ⟨a, b, c⟩ := h2 u hu
        exact ⟨a, by omega, c⟩
theorem bal_all : ∀ t : T, t.formed = true → t.bal = t.list.all evn := F_ind (fun t _ h => by rw [list_nil h, bal_nil h]; rfl)
  fun t l r hf h hl hr h1 h2 => by
    rw [list_two h, bal_two h, h1, h2, List.all_append, List.all_cons]
    have e : evn t = (decide (l.depth - r.depth ≤ 1) && decide (r.depth - l.depth ≤ 1)) := by
      unfold evn
      rw [h]
      simp only [List.getD_cons_zero, List.getD_cons_succ]
      congr 1
      exact decide_eq_decide.mpr (by omega)
    rw [e]
    cases l.list.all evn <;> cases r.list.all evn <;> simp
/-! ### Balanced trees, as binary trees -/
theorem srtT_srt : ∀ l : List T, srtT l = true ↔ srtP (l.map fun t => (t.key, t.value))
  | [] => by simp [srtT, srtP]
  | [a] => by simp [srtT, srtP]
  | a :: b :: l => by
    have ih := srtT_srt (b :: l)
    simp only [srtT, Bool.and_eq_true, decide_eq_true_eq, ih]
    unfold srtP
    simp only [List.map_cons, List.pairwise_cons, List.mem_cons]
    constructor
    · rintro ⟨h1, h2, h3⟩
      refine ⟨fun x hx => ?_, h2, h3⟩
      rcases hx with rfl | hx
      · exact h1
      · have h4 : cmp b.key x.1 < 0 := h2 x hx
        have := cmp_trans a.key b.key x.1 (by omega) (by omega)
        show cmp a.key x.1 < 0
        omega
    · rintro ⟨h1, h2, h3⟩
      exact ⟨h1 _ (.inl rfl), h2, h3⟩
/-- A balanced tree. -/
structure B.good (b : B) : Prop where
  ok : b.ok = true
  bal : b.bal = true
  srt : srtP b.list
theorem of_isA (t : T) (h : t.isA = true) : ∃ b : B, b.t = t ∧ b.good ∧ b.depth ≤ 64 := by
  unfold T.isA at h
  simp only [Bool.and_eq_true, decide_eq_true_eq] at h
  obtain ⟨⟨h1, h2⟩, h3, h4⟩ := h
  obtain ⟨b, rfl, ho⟩ := of_full t (chk_formed h1) h2
  refine ⟨b, rfl, ⟨ho, ?_, ?_⟩, ?_⟩
  · rwa [Bt_bal] at h4
  · rw [srtT_srt, Bt_list] at h3
    exact h3
  · have hd := Bt_deep b 64 (by omega)
    unfold T.chk at h1
    split at h1
    · cases h1
    · rename_i hn
      rw [hd] at hn
      simp only [decide_eq_true_eq] at hn
      omega
theorem isA_of (b : B) (h : b.good) (hd : b.depth ≤ 64) : b.t.isA = true := by
  unfold T.isA
  rw [Bt_chk b h.ok hd, Bt_full, Bt_bal, h.bal, (srtT_srt b.t.list).2 (by rw [Bt_list]; exact h.srt)]
  rfl
theorem put_good (b : B) (k v : List UInt8) (h : b.good) (hk : k.length ≤ 80) (hv : v.length ≤ 1024) : (b.put k v).good := ⟨put_ok b k v h.ok hk hv, (put_bal b k v h.bal).1, put_srt b k v h.srt⟩
theorem take_good (b : B) (k : List UInt8) (h : b.good) : (b.take k).good := ⟨take_ok b k h.srt h.ok, (take_bal b k h.bal).1, take_srt b k h.srt⟩
theorem n_good : B.n.good := ⟨rfl, rfl, by simp [B.list, srtP]⟩
/-! ### Asked; what is there -/
/-- What is amiss with what is asked. -/
def askA (t : T) (k v : List UInt8) : Int := if t.isA = true then (if 80 < k.length ∨ 1024 < v.length then 1 else 0) else 3
end Go.Proofs.YtebiajdkgpcidaaDoor
namespace Go.Proofs.YtebiajdkgpcidaaDoor
open Go.Ev

theorem askA_cases (t : T) (k v : List UInt8) : askA t k v = 0 ∨ askA t k v = 1 ∨ askA t k v = 3 := by unfold askA; split <;> (try split) <;> simp
theorem askA_zero {t : T} {k v : List UInt8} (h : askA t k v = 0) : t.isA = true ∧ k.length ≤ 80 ∧ v.length ≤ 1024 := by
  unfold askA at h
  split at h
  · split at h
    · cases h
    · rename_i h1 h2
      exact ⟨h1, by omega, by omega⟩
  · cases h
def getT (l : List T) (k : List UInt8) : Option (List UInt8) := (l.find? fun u => decide (cmp u.key k = 0)).map T.value
theorem getT_P (b : B) (k : List UInt8) : getT b.t.list k = getP b.list k := by
  unfold getT getP
  rw [← Bt_list, List.find?_map, Option.map_map]
  rfl
theorem errV_ne {c : Int} (h : ¬ c = 0) : errV c = errA c := if_neg h
/-! ### The laws -/
end Go.Proofs.YtebiajdkgpcidaaDoor
namespace Go.Proofs.YtebiajdkgpcidaaDoor
open Go.Ev

theorem same_n : Ev tab G0 n_ref04_Same [.agg [i64 0, .sl true [], .sl true [], .sl true [], .sl true []], .agg [i64 0, .sl true [], .sl true [], .sl true [], .sl true []]] [] = some ([bo true], []) := by
  have := ref04_Same_self .no (by rw [← Bt_n, Bn_size]; omega)
  rwa [avB_no] at this
theorem lev_id (l : B) (k v : List UInt8) (r : B) (h1 : l.depth - r.depth ≤ 1) (h2 : r.depth - l.depth ≤ 1) : lev l k v r = .d l k v r := by
  unfold lev
  rw [if_neg (by omega), if_neg (by omega)]
theorem take_absent : ∀ (b : B) (k : List UInt8), b.bal = true → b.get k = none → b.take k = b
  | .n, k, _, _ => rfl
  | .d l a b r, k, hb, hg => by
    rw [bal_d] at hb
    obtain ⟨h1, h2, h3, h4⟩ := hb
    simp only [B.get] at hg
    simp only [B.take]
    by_cases c1 : cmp k a = 0
    · rw [if_pos c1] at hg
      cases hg
    · rw [if_neg c1] at hg
      by_cases c2 : cmp k a < 0
      · rw [if_pos c2] at hg ⊢
        rw [take_absent l k h1 hg, lev_id l a b r h3 h4]
      · rw [if_neg c2] at hg ⊢
        rw [if_pos (by omega), take_absent r k h2 hg, lev_id l a b r h3 h4]
end Go.Proofs.YtebiajdkgpcidaaDoor
namespace Go.Proofs.YtebiajdkgpcidaaDoor
open Go.Ev

abbrev pcells (x : KV) : List C := [.sl (eB x.1), .sl (eB x.2)]
def eP (l : List KV) : List (List C) := l.map fun x => [.sl (eB x.1), .sl (eB x.2)]
theorem eP_nil : eP [] = [] := rfl
theorem eP_len {l : List KV} : (eP l).length = l.length := by simp [eP]
theorem eP_sz {l : List KV} : szOk 2 (eP l) = true := by simp [szOk, eP]
theorem eP_get {l : List KV} {i : Nat} (h : i < l.length) : (eP l)[i]? = some [.sl (eB (l.getD i ([], [])).1), .sl (eB (l.getD i ([], [])).2)] := by
  simp [eP, List.getD, h]
theorem eP_app {a b : List KV} : eP a ++ eP b = eP (a ++ b) := by simp [eP]
theorem eP_one {a b : List UInt8} : [[C.sl (eB a), C.sl (eB b)]] = eP [(a, b)] := rfl
theorem eP_emp {x : KV} {l : List KV} : (eP (x :: l)).isEmpty = false := rfl
attribute [go_sem] eP_len eP_sz eP_get
def rpA (s : Nat) : List KV → AV
  | [] => .nilsl
  | _ :: l => .row s (l.length + 1)
theorem rpA_ne {s : Nat} {l : List KV} (h : l ≠ []) : rpA s l = .row s l.length := by cases l with | nil => exact absurd rfl h | cons b l => rfl
theorem rpA_nil {s : Nat} : rpA s [] = .nilsl := rfl
end Go.Proofs.YtebiajdkgpcidaaDoor
namespace Go.Proofs.YtebiajdkgpcidaaDoor
open Go.Ev

structure Deed where
  k : List UInt8
  v : List UInt8
  out : Bool
def eD (l : List Deed) : List (List C) := l.map fun d => [.sl (eB d.k), .sl (eB d.v), .sc (.bool d.out)]
theorem eD_len {l : List Deed} : (eD l).length = l.length := by simp [eD]
theorem eD_sz {l : List Deed} : szOk 3 (eD l) = true := by simp [szOk, eD]
theorem eD_get {l : List Deed} {i : Nat} (h : i < l.length) : (eD l)[i]? = some [.sl (eB (l.getD i ⟨[], [], false⟩).k), .sl (eB (l.getD i ⟨[], [], false⟩).v), .sc (.bool (l.getD i ⟨[], [], false⟩).out)] := by
  simp [eD, List.getD, h]
attribute [go_sem] eD_len eD_sz eD_get
def notK (k : List UInt8) (x : KV) : Bool := !decide (cmp x.1 k = 0)
abbrev oD (d : Deed) : Ev.Obj := .var [.sl true (eB d.k), .sl true (eB d.v), bo d.out]
end Go.Proofs.YtebiajdkgpcidaaDoor
namespace Go.Proofs.YtebiajdkgpcidaaDoor
open Go.Ev

theorem insP_perm (k v : List UInt8) : ∀ L : List KV, srtP L → (insP k v L).Perm (L.filter (notK k) ++ [(k, v)])
  | [], _ => by simp [insP]
  | (a, b) :: L, h => by
    unfold srtP at h
    rw [List.pairwise_cons] at h
    have ih := insP_perm k v L h.2
    have sw := cmp_swap k a
    simp only [insP]
    by_cases c1 : cmp k a = 0
    · have hka := cmp_eq k a c1
      subst hka
      rw [if_pos c1]
      have e : notK k (k, b) = false := by unfold notK; rw [decide_eq_true (cmp_self k)]; rfl
      have ef : L.filter (notK k) = L := filter_all fun x hx => by
        have h1 : cmp k x.1 < 0 := h.1 x hx
        have s2 := cmp_swap k x.1
        unfold notK
        rw [decide_eq_false (by omega)]
        rfl
      rw [List.filter_cons, e, if_neg (by simp), ef]
      exact (List.perm_append_singleton (k, v) L).symm
    · have e : notK k (a, b) = true := by unfold notK; rw [decide_eq_false (by show ¬ cmp a k = 0; omega)]; rfl
      rw [if_neg c1, List.filter_cons, e, if_pos rfl]
      by_cases c2 : cmp k a < 0
      · rw [if_pos c2]
        have ef : L.filter (notK k) = L := filter_all fun x hx => by
          have h1 : cmp a x.1 < 0 := h.1 x hx
          have h2 := cmp_trans k a x.1 (by omega) (by omega)
          have s2 := cmp_swap k x.1
          unfold notK
          rw [decide_eq_false (by omega)]
          rfl
        rw [ef]
        exact (List.perm_append_singleton (k, v) ((a, b) :: L)).symm
      · rw [if_neg c2]
        exact ih.cons (a, b)
theorem getP_mem : ∀ {L : List KV} {x : KV}, srtP L → x ∈ L → getP L x.1 = some x.2
  | y :: L, x, h, hx => by
    unfold srtP at h
    rw [List.pairwise_cons] at h
    unfold getP
    rw [List.find?_cons]
    rcases List.mem_cons.1 hx with rfl | hx
    · rw [decide_eq_true (cmp_self x.1)]
      rfl
    · have h1 : cmp y.1 x.1 < 0 := h.1 x hx
      rw [decide_eq_false (by omega)]
      exact getP_mem h.2 hx
theorem getP_any (L : List KV) (k : List UInt8) : (getP L k).isSome = L.any fun x => !notK k x := by
  unfold getP
  induction L with
  | nil => rfl
  | cons x L ih =>
    rw [List.find?_cons, List.any_cons]
    by_cases c : cmp x.1 k = 0
    · have e : notK k x = false := by unfold notK; rw [decide_eq_true c]; rfl
      rw [decide_eq_true c, e]
      rfl
    · have e : notK k x = true := by unfold notK; rw [decide_eq_false c]; rfl
      rw [decide_eq_false c, e]
      simpa using ih
theorem any_perm {a b : List KV} (h : a.Perm b) (p : KV → Bool) : a.any p = b.any p := by
  induction h with
  | nil => rfl
  | cons x _ ih => simp only [List.any_cons, ih]
  | swap x y l => simp only [List.any_cons, ← Bool.or_assoc, Bool.or_comm (p y) (p x)]
  | trans _ _ i1 i2 => rw [i1, i2]
theorem sumP_le {L : List KV} (h : ∀ x ∈ L, x.1.length ≤ 80 ∧ x.2.length ≤ 1024) : sumP L ≤ L.length * 1106 := by
  induction L with
  | nil => simp [sumP]
  | cons x L ih =>
    have h1 := ih fun y hy => h y (by simp [hy])
    have h2 := h x (by simp)
    simp only [sumP, List.length_cons]
    omega
/-- What is kept. -/
structure Kept (b : B) (hv : List KV) (m : Nat) : Prop where
  good : b.good
  perm : b.list.Perm hv
  few : b.list.length ≤ m
theorem Kept.size {b : B} {hv : List KV} {m : Nat} (h : Kept b hv m) (hm : m ≤ 100) : b.t.size ≤ 110601 ∧ b.depth ≤ m ∧ hv.length ≤ m := by
  have h1 := sumP_le ((ok_list b).1 h.good.ok)
  have h2 := size_sum b
  have h3 := Bd_nodes b
  have h4 := Bl_nodes b
  have h5 := h.few
  have h6 := h.perm.length_eq
  refine ⟨by omega, by omega, by omega⟩
theorem Kept.put {b : B} {hv : List KV} {m : Nat} (h : Kept b hv m) (k v : List UInt8) (hk : k.length ≤ 80) (hvl : v.length ≤ 1024) : Kept (b.put k v) (hv.filter (notK k) ++ [(k, v)]) (m + 1) where
  good := put_good b k v h.good hk hvl
  perm := by
    rw [put_list b k v h.good.srt]
    exact (insP_perm k v b.list h.good.srt).trans ((h.perm.filter _).append_right _)
  few := by
    rw [put_list b k v h.good.srt, (insP_perm k v b.list h.good.srt).length_eq, List.length_append]
    have := List.length_filter_le (notK k) b.list
    have := h.few
    simp only [List.length_cons, List.length_nil]
    omega
theorem Kept.take {b : B} {hv : List KV} {m : Nat} (h : Kept b hv m) (k : List UInt8) : Kept (b.take k) (hv.filter (notK k)) (m + 1) where
  good := take_good b k h.good
  perm := by
    rw [take_list b k h.good.srt]
    exact h.perm.filter _
  few := by
    rw [take_list b k h.good.srt]
    exact Nat.le_trans (List.length_filter_le _ _) (Nat.le_succ_of_le h.few)
theorem Kept.more {b : B} {hv : List KV} {m : Nat} (h : Kept b hv m) : Kept b hv (m + 1) := ⟨h.good, h.perm, by have := h.few; omega⟩
theorem Kept.had {b : B} {hv : List KV} {m : Nat} (h : Kept b hv m) (k : List UInt8) : (b.get k).isSome = hv.any fun x => !notK k x := by
  rw [get_list b k h.good.srt, getP_any, any_perm h.perm]
end Go.Proofs.YtebiajdkgpcidaaDoor
namespace Go.Proofs.YtebiajdkgpcidaaDoor
open Go.Ev

abbrev avSpan (f t : List UInt8) (o : Bool) : AV := .agg [.sl true (eB f), .sl true (eB t), bo o]
/-- Is a key in a span? -/
def inS (f t : List UInt8) (o : Bool) (k : List UInt8) : Bool := decide (0 ≤ cmp k f) && (o || decide (cmp k t < 0))
theorem eqE_eB : ∀ l : List UInt8, eqE (eB l) (eB l) = true
  | [] => rfl
  | b :: l => by
    have := eqE_eB l
    simp only [eB, List.map_cons, eqE] at this ⊢
    simp [this]
end Go.Proofs.YtebiajdkgpcidaaDoor
namespace Go.Proofs.YtebiajdkgpcidaaDoor
open Go.Ev

def rngL (f t : List UInt8) (o : Bool) (l : List T) : List KV := (l.filter fun n => inS f t o n.key).map fun n => (n.key, n.value)
theorem rngL_len (f t : List UInt8) (o : Bool) (l : List T) : (rngL f t o l).length ≤ l.length := by
  unfold rngL
  rw [List.length_map]
  exact List.length_filter_le _ _
abbrev oSpan (f t : List UInt8) (o : Bool) : Ev.Obj := .var [.sl true (eB f), .sl true (eB t), bo o]
theorem isA_chk {t : T} (h : t.isA = true) : t.chk = 0 := by
  unfold T.isA at h
  simp only [Bool.and_eq_true, decide_eq_true_eq] at h
  exact h.1.1
/-! ### Likeness -/
def sameP : List KV → List KV → Bool
  | [], [] => true
  | x :: a, y :: b => (x.1 == y.1 && x.2 == y.2) && sameP a b
  | _, _ => false
theorem sameP_nil : sameP [] [] = true := rfl
theorem sameP_cons (x y : KV) (a b : List KV) : sameP (x :: a) (y :: b) = ((x.1 == y.1 && x.2 == y.2) && sameP a b) := rfl
theorem sameP_self : ∀ a : List KV, sameP a a = true
  | [] => rfl
  | x :: a => by simp [sameP, sameP_self a]
end Go.Proofs.YtebiajdkgpcidaaDoor
namespace Go.Proofs.YtebiajdkgpcidaaDoor
open Go.Ev

theorem grown_loop (l : List KV) (hl : l.length ≤ 1048576) : ∀ (n i : Nat) (b : B) (hv : List KV), n + i = min l.length 60 → Kept b hv i →
    ∃ b' hv', Kept b' hv' 60 ∧ L_ref05_Grown_0 (s_ref05_Grown_K0 (.sl true (eP l)) (.ptr 0 0) (.ptr 1 0) (i64 i) [some oZ5, some (oT b.t)]) = some (.exit 0, s_ref05_Grown_J0 (.ptr 0 0) (.ptr 1 0) [some oZ5, some (oT b'.t)])
  | 0, i, b, hv, h, hk => by
    refine ⟨b, hv, ⟨hk.good, hk.perm, by have := hk.few; omega⟩, ?_⟩
    rw [L_ref05_Grown_0_eq]
    generalize b.t = t at *
    by_cases hc : i < l.length
    · simp (maxSteps := 1000000) (disch := first | omega | (simp only [List.length_cons, List.length_nil, List.length_append, List.length_map, List.length_take, List.length_drop]; omega)) only [go_sem, ↓reduceIte, Nat.reduceSub, Nat.reduceAdd, Nat.reduceMul, Nat.reduceLeDiff, Nat.reduceLT, Nat.reduceEqDiff, Nat.reduceBEq, Int.reduceLE, Int.reduceLT, Int.reduceEq, Int.reduceNeg, Int.reduceAdd, Int.reduceSub, Int.reduceMul, Int.reduceToNat, i_ref05_Grown_b0]
    · simp (maxSteps := 1000000) (disch := first | omega | (simp only [List.length_cons, List.length_nil, List.length_append, List.length_map, List.length_take, List.length_drop]; omega)) only [go_sem, ↓reduceIte, Nat.reduceSub, Nat.reduceAdd, Nat.reduceMul, Nat.reduceLeDiff, Nat.reduceLT, Nat.reduceEqDiff, Nat.reduceBEq, Int.reduceLE, Int.reduceLT, Int.reduceEq, Int.reduceNeg, Int.reduceAdd, Int.reduceSub, Int.reduceMul, Int.reduceToNat, i_ref05_Grown_b0]
  | n + 1, i, b, hv, h, hk => by
    obtain ⟨s1, s2, s3⟩ := hk.size (by omega)
    rw [L_ref05_Grown_0_eq]
    generalize hd : l.getD i ([], []) = d at *
    by_cases ck : d.1.length ≤ 80
    · by_cases cv : d.2.length ≤ 1024
      · obtain ⟨b', hv', k1, k2⟩ := grown_loop l hl n (i + 1) (b.put d.1 d.2) (hv.filter (notK d.1) ++ [(d.1, d.2)]) (by omega) (hk.put d.1 d.2 ck cv)
        refine ⟨b', hv', k1, ?_⟩
        have h2 := ref05_Put_ev b d.1 d.2 hk.good.ok hk.good.bal ck cv (by omega)
        generalize b.put d.1 d.2 = p at *
        simp only [avB] at *
        generalize p.t = pt at *
        generalize b.t = t at *
        generalize b'.t = t' at *
        try simp (maxSteps := 1000000) (disch := first | omega | (simp only [List.length_cons, List.length_nil, List.length_append, List.length_map, List.length_take, List.length_drop]; omega)) only [go_sem, ↓reduceIte, Nat.reduceSub, Nat.reduceAdd, Nat.reduceMul, Nat.reduceLeDiff, Nat.reduceLT, Nat.reduceEqDiff, Nat.reduceBEq, Int.reduceLE, Int.reduceLT, Int.reduceEq, Int.reduceNeg, Int.reduceAdd, Int.reduceSub, Int.reduceMul, Int.reduceToNat] at k2
        simp (maxSteps := 1000000) (disch := first | omega | (simp only [List.length_cons, List.length_nil, List.length_append, List.length_map, List.length_take, List.length_drop]; omega)) only [go_sem, ↓reduceIte, Nat.reduceSub, Nat.reduceAdd, Nat.reduceMul, Nat.reduceLeDiff, Nat.reduceLT, Nat.reduceEqDiff, Nat.reduceBEq, Int.reduceLE, Int.reduceLT, Int.reduceEq, Int.reduceNeg, Int.reduceAdd, Int.reduceSub, Int.reduceMul, Int.reduceToNat, i_ref05_Grown_b0, hd, h2, k2]
      · obtain ⟨b', hv', k1, k2⟩ := grown_loop l hl n (i + 1) b hv (by omega) hk.more
        refine ⟨b', hv', k1, ?_⟩
        generalize b.t = t at *
        generalize b'.t = t' at *
        try simp (maxSteps := 1000000) (disch := first | omega | (simp only [List.length_cons, List.length_nil, List.length_append, List.length_map, List.length_take, List.length_drop]; omega)) only [go_sem, ↓reduceIte, Nat.reduceSub, Nat.reduceAdd, Nat.reduceMul, Nat.reduceLeDiff, Nat.reduceLT, Nat.reduceEqDiff, Nat.reduceBEq, Int.reduceLE, Int.reduceLT, Int.reduceEq, Int.reduceNeg, Int.reduceAdd, Int.reduceSub, Int.reduceMul, Int.reduceToNat] at k2
        simp (maxSteps := 1000000) (disch := first | omega | (simp only [List.length_cons, List.length_nil, List.length_append, List.length_map, List.length_take, List.length_drop]; omega)) only [go_sem, ↓reduceIte, Nat.reduceSub, Nat.reduceAdd, Nat.reduceMul, Nat.reduceLeDiff, Nat.reduceLT, Nat.reduceEqDiff, Nat.reduceBEq, Int.reduceLE, Int.reduceLT, Int.reduceEq, Int.reduceNeg, Int.reduceAdd, Int.reduceSub, Int.reduceMul, Int.reduceToNat, i_ref05_Grown_b0, hd, k2]
    · obtain ⟨b', hv', k1, k2⟩ := grown_loop l hl n (i + 1) b hv (by omega) hk.more
      refine ⟨b', hv', k1, ?_⟩
      generalize b.t = t at *
      generalize b'.t = t' at *
      try simp (maxSteps := 1000000) (disch := first | omega | (simp only [List.length_cons, List.length_nil, List.length_append, List.length_map, List.length_take, List.length_drop]; omega)) only [go_sem, ↓reduceIte, Nat.reduceSub, Nat.reduceAdd, Nat.reduceMul, Nat.reduceLeDiff, Nat.reduceLT, Nat.reduceEqDiff, Nat.reduceBEq, Int.reduceLE, Int.reduceLT, Int.reduceEq, Int.reduceNeg, Int.reduceAdd, Int.reduceSub, Int.reduceMul, Int.reduceToNat] at k2
      simp (maxSteps := 1000000) (disch := first | omega | (simp only [List.length_cons, List.length_nil, List.length_append, List.length_map, List.length_take, List.length_drop]; omega)) only [go_sem, ↓reduceIte, Nat.reduceSub, Nat.reduceAdd, Nat.reduceMul, Nat.reduceLeDiff, Nat.reduceLT, Nat.reduceEqDiff, Nat.reduceBEq, Int.reduceLE, Int.reduceLT, Int.reduceEq, Int.reduceNeg, Int.reduceAdd, Int.reduceSub, Int.reduceMul, Int.reduceToNat, i_ref05_Grown_b0, hd, k2]
theorem grown_loopZ (l : List KV) (hl : l.length ≤ 1048576) : ∀ (n i : Nat), n + i = min l.length 60 →
    ∃ o b' hv', Kept b' hv' 60 ∧ (o = oT b'.t ∨ (o = oZ5 ∧ b' = .n)) ∧ L_ref05_Grown_0 (s_ref05_Grown_K0 (.sl true (eP l)) (.ptr 0 0) (.ptr 1 0) (i64 i) [some oZ5, some oZ5]) = some (.exit 0, s_ref05_Grown_J0 (.ptr 0 0) (.ptr 1 0) [some oZ5, some o])
  | 0, i, h => by
    refine ⟨oZ5, .n, [], ⟨n_good, .nil, by simp [B.list]⟩, .inr ⟨rfl, rfl⟩, ?_⟩
    rw [L_ref05_Grown_0_eq]
    by_cases hc : i < l.length
    · simp (maxSteps := 1000000) (disch := first | omega | (simp only [List.length_cons, List.length_nil, List.length_append, List.length_map, List.length_take, List.length_drop]; omega)) only [go_sem, ↓reduceIte, Nat.reduceSub, Nat.reduceAdd, Nat.reduceMul, Nat.reduceLeDiff, Nat.reduceLT, Nat.reduceEqDiff, Nat.reduceBEq, Int.reduceLE, Int.reduceLT, Int.reduceEq, Int.reduceNeg, Int.reduceAdd, Int.reduceSub, Int.reduceMul, Int.reduceToNat, i_ref05_Grown_b0]
    · simp (maxSteps := 1000000) (disch := first | omega | (simp only [List.length_cons, List.length_nil, List.length_append, List.length_map, List.length_take, List.length_drop]; omega)) only [go_sem, ↓reduceIte, Nat.reduceSub, Nat.reduceAdd, Nat.reduceMul, Nat.reduceLeDiff, Nat.reduceLT, Nat.reduceEqDiff, Nat.reduceBEq, Int.reduceLE, Int.reduceLT, Int.reduceEq, Int.reduceNeg, Int.reduceAdd, Int.reduceSub, Int.reduceMul, Int.reduceToNat, i_ref05_Grown_b0]
  | n + 1, i, h => by
    have hk0 : Kept .n [] i := ⟨n_good, .nil, by simp [B.list]⟩
    obtain ⟨s1, s2, s3⟩ := hk0.size (by omega)
    rw [L_ref05_Grown_0_eq]
    generalize hd : l.getD i ([], []) = d at *
    by_cases ck : d.1.length ≤ 80
    · by_cases cv : d.2.length ≤ 1024
      · obtain ⟨b', hv', k1, k2⟩ := grown_loop l hl n (i + 1) (B.n.put d.1 d.2) [(d.1, d.2)] (by omega) (hk0.put d.1 d.2 ck cv)
        refine ⟨_, b', hv', k1, .inl rfl, ?_⟩
        have h2 := ref05_Put_ev .n d.1 d.2 hk0.good.ok hk0.good.bal ck cv (by omega)
        generalize B.n.put d.1 d.2 = p at *
        simp only [avB_n] at h2
        simp only [avB] at *
        generalize p.t = pt at *
        generalize b'.t = t' at *
        try simp (maxSteps := 1000000) (disch := first | omega | (simp only [List.length_cons, List.length_nil, List.length_append, List.length_map, List.length_take, List.length_drop]; omega)) only [go_sem, ↓reduceIte, Nat.reduceSub, Nat.reduceAdd, Nat.reduceMul, Nat.reduceLeDiff, Nat.reduceLT, Nat.reduceEqDiff, Nat.reduceBEq, Int.reduceLE, Int.reduceLT, Int.reduceEq, Int.reduceNeg, Int.reduceAdd, Int.reduceSub, Int.reduceMul, Int.reduceToNat] at k2
        simp (maxSteps := 1000000) (disch := first | omega | (simp only [List.length_cons, List.length_nil, List.length_append, List.length_map, List.length_take, List.length_drop]; omega)) only [go_sem, ↓reduceIte, Nat.reduceSub, Nat.reduceAdd, Nat.reduceMul, Nat.reduceLeDiff, Nat.reduceLT, Nat.reduceEqDiff, Nat.reduceBEq, Int.reduceLE, Int.reduceLT, Int.reduceEq, Int.reduceNeg, Int.reduceAdd, Int.reduceSub, Int.reduceMul, Int.reduceToNat, i_ref05_Grown_b0, hd, h2, k2]
      · obtain ⟨o, b', hv', k1, k3, k2⟩ := grown_loopZ l hl n (i + 1) (by omega)
        refine ⟨o, b', hv', k1, k3, ?_⟩
        try simp (maxSteps := 1000000) (disch := first | omega | (simp only [List.length_cons, List.length_nil, List.length_append, List.length_map, List.length_take, List.length_drop]; omega)) only [go_sem, ↓reduceIte, Nat.reduceSub, Nat.reduceAdd, Nat.reduceMul, Nat.reduceLeDiff, Nat.reduceLT, Nat.reduceEqDiff, Nat.reduceBEq, Int.reduceLE, Int.reduceLT, Int.reduceEq, Int.reduceNeg, Int.reduceAdd, Int.reduceSub, Int.reduceMul, Int.reduceToNat] at k2
        simp (maxSteps := 1000000) (disch := first | omega | (simp only [List.length_cons, List.length_nil, List.length_append, List.length_map, List.length_take, List.length_drop]; omega)) only [go_sem, ↓reduceIte, Nat.reduceSub, Nat.reduceAdd, Nat.reduceMul, Nat.reduceLeDiff, Nat.reduceLT, Nat.reduceEqDiff, Nat.reduceBEq, Int.reduceLE, Int.reduceLT, Int.reduceEq, Int.reduceNeg, Int.reduceAdd, Int.reduceSub, Int.reduceMul, Int.reduceToNat, i_ref05_Grown_b0, hd, k2]
    · obtain ⟨o, b', hv', k1, k3, k2⟩ := grown_loopZ l hl n (i + 1) (by omega)
      refine ⟨o, b', hv', k1, k3, ?_⟩
      try simp (maxSteps := 1000000) (disch := first | omega | (simp only [List.length_cons, List.length_nil, List.length_append, List.length_map, List.length_take, List.length_drop]; omega)) only [go_sem, ↓reduceIte, Nat.reduceSub, Nat.reduceAdd, Nat.reduceMul, Nat.reduceLeDiff, Nat.reduceLT, Nat.reduceEqDiff, Nat.reduceBEq, Int.reduceLE, Int.reduceLT, Int.reduceEq, Int.reduceNeg, Int.reduceAdd, Int.reduceSub, Int.reduceMul, Int.reduceToNat] at k2
      simp (maxSteps := 1000000) (disch := first | omega | (simp only [List.length_cons, List.length_nil, List.length_append, List.length_map, List.length_take, List.length_drop]; omega)) only [go_sem, ↓reduceIte, Nat.reduceSub, Nat.reduceAdd, Nat.reduceMul, Nat.reduceLeDiff, Nat.reduceLT, Nat.reduceEqDiff, Nat.reduceBEq, Int.reduceLE, Int.reduceLT, Int.reduceEq, Int.reduceNeg, Int.reduceAdd, Int.reduceSub, Int.reduceMul, Int.reduceToNat, i_ref05_Grown_b0, hd, k2]
theorem ref05_Grown_ev (l : List KV) (hl : l.length ≤ 1048576) : ∃ b hv, Kept b hv 60 ∧ Ev tab G0 n_ref05_Grown [.sl true (eP l)] [] = some ([avB b], []) := by
  obtain ⟨o, b, hv, hk, hor, h1⟩ := grown_loopZ l hl (min l.length 60) 0 (by omega)
  refine ⟨b, hv, hk, ?_⟩
  have e0 : ((0 : Nat) : Int) = 0 := rfl
  rw [e0] at h1
  refine Ev_run t_ref05_Grown rfl rfl ?_
  rcases hor with rfl | ⟨rfl, rfl⟩
  · simp only [avB]
    generalize b.t = t at *
    simp (maxSteps := 1000000) (disch := first | omega | (simp only [List.length_cons, List.length_nil, List.length_append, List.length_map, List.length_take, List.length_drop]; omega)) only [go_sem, ↓reduceIte, Nat.reduceSub, Nat.reduceAdd, Nat.reduceMul, Nat.reduceLeDiff, Nat.reduceLT, Nat.reduceEqDiff, Nat.reduceBEq, Int.reduceLE, Int.reduceLT, Int.reduceEq, Int.reduceNeg, Int.reduceAdd, Int.reduceSub, Int.reduceMul, Int.reduceToNat, i_ref05_Grown, h1]
  · simp only [avB_n]
    simp (maxSteps := 1000000) (disch := first | omega | (simp only [List.length_cons, List.length_nil, List.length_append, List.length_map, List.length_take, List.length_drop]; omega)) only [go_sem, ↓reduceIte, Nat.reduceSub, Nat.reduceAdd, Nat.reduceMul, Nat.reduceLeDiff, Nat.reduceLT, Nat.reduceEqDiff, Nat.reduceBEq, Int.reduceLE, Int.reduceLT, Int.reduceEq, Int.reduceNeg, Int.reduceAdd, Int.reduceSub, Int.reduceMul, Int.reduceToNat, i_ref05_Grown, h1]

end Go.Proofs.YtebiajdkgpcidaaDoor
namespace Go.Proofs.YtebiajdkgpcidaaDoor
open Go.Ev

def mk3 (w : Int) (p : T) : T := .mk 3 [] [] (dgV (p.dig w)) []
theorem full_nil0 {t : T} (hf : t.formed = true) (hfl : t.full = true) : t.kids = [] ↔ t.kind = 0 := by
  constructor
  · intro h
    rw [full_eq] at hfl
    split at hfl
    · cases hfl
    · rcases kind_nil hf h with hk | hk <;> omega
  · intro h
    have ho := okT_of hf
    unfold okT at ho
    exact List.length_eq_zero_iff.1 (by omega)
theorem full_two0 {t l r : T} (h : t.kids = [l, r]) (hf : t.full = true) : t.kind ≤ 1 ∧ l.full = true ∧ r.full = true := by
  rw [full_eq, h] at hf
  split at hf
  · cases hf
  · simp only [fullL, Bool.and_true, Bool.and_eq_true] at hf
    exact ⟨by omega, hf.1, hf.2⟩
theorem full_dig (w : Int) (hw : 1 ≤ w ∧ w ≤ 32) : ∀ t : T, t.formed = true → t.full = true → ∃ d, t.dig w = some d := F_ind
  (fun t hf h hfl => by
    have hk : t.kind = 0 := (full_nil0 hf hfl).1 h
    exact ⟨_, dig_0 hk⟩)
  fun t l r hf h hl hr il ir hfl => by
    obtain ⟨f0, f1, f2⟩ := full_two0 h hfl
    obtain ⟨x, ex⟩ := il f1
    obtain ⟨y, ey⟩ := ir f2
    have hk : t.kind = 1 := by rcases kind_two hf h with hk | hk <;> omega
    rw [dig_1 hw hk h, ex, ey]
    exact ⟨_, rfl⟩
theorem back_law (w : Int) (hw : 1 ≤ w ∧ w ≤ 32) : ∀ t : T, t.formed = true → t.full = true → ∀ (n : Nat) (rest : List T), (headT w n t).formed = true ∧ (∀ b, 0 ≤ b → t.deep b = false → (headT w n t).deep b = false) ∧ (headT w n t).cuts = (partT n t).map (mk3 w) ∧ (headT w n t).drk = false ∧ (headT w n t).fill (partT n t ++ rest) = (t, rest) ∧ ∀ p ∈ partT n t, p.formed = true ∧ p.full = true ∧ p.kids ≠ [] ∧ (t.deep 64 = false → p.deep 64 = false) := F_ind
  (fun t hf h hfl n rest => by
    have hk : t.kind = 0 := (full_nil0 hf hfl).1 h
    rw [headT_nil h, partT_nil h]
    refine ⟨hf, fun _ _ hb => hb, ?_, ?_, ?_, fun p hp => by simp at hp⟩
    · rw [cuts_nil (by omega) h]; rfl
    · rw [drk_eq, h, decide_eq_false (by omega)]; rfl
    · rw [fill_nil (by omega) h]; rfl)
  fun t l r hf h hl hr il ir hfl n rest => by
    obtain ⟨f0, f1, f2⟩ := full_two0 h hfl
    have hk : t.kind = 1 := by rcases kind_two hf h with hk | hk <;> omega
    have ho := okT_of hf
    unfold okT at ho
    rw [h] at ho
    simp only [List.length_cons, List.length_nil] at ho
    cases n with
    | zero =>
      obtain ⟨d, hd⟩ := full_dig w hw t hf hfl
      have hdl := dig_len w hw t hf d hd
      rw [headT_0 h, partT_0 h, hd]
      simp only [dgV]
      refine ⟨?_, fun b _ _ => deep_nil rfl (.inr rfl), ?_, ?_, ?_, fun p hp => ?_⟩
      · rw [formed_eq]
        simp only [T_kids, formedL, Bool.and_true, decide_eq_true_eq]
        exact .inr (.inr (.inr ⟨rfl, rfl, rfl, rfl⟩))
      · rw [cuts_3 rfl]
        simp only [List.map_cons, List.map_nil, mk3, hd, dgV]
      · rw [drk_eq]; rfl
      · rw [fill_3 rfl]; rfl
      · obtain rfl : p = t := by simpa using hp
        exact ⟨hf, hfl, by rw [h]; simp, fun x => x⟩
    | succ n =>
      obtain ⟨l1, l2, l3, l4, l5, l6⟩ := il f1 n (partT n r ++ rest)
      obtain ⟨r1, r2, r3, r4, r5, r6⟩ := ir f2 n rest
      rw [headT_s h, partT_s h]
      have h3 : ¬ (T.mk t.kind t.key t.value [] [headT w n l, headT w n r]).kind = 3 := by simp only [T_kind]; omega
      have hkk : (T.mk t.kind t.key t.value [] [headT w n l, headT w n r]).kids = [headT w n l, headT w n r] := rfl
      refine ⟨?_, fun b hb hdb => ?_, ?_, ?_, ?_, fun p hp => ?_⟩
      · rw [formed_eq]
        simp only [T_kids, formedL, l1, r1, Bool.and_true, decide_eq_true_eq]
        exact .inr (.inl ⟨hk, (by omega : t.key.length ≤ 80), (by omega : t.value.length ≤ 1024), rfl, rfl⟩)
      · rw [deep_two h] at hdb
        rw [deep_two hkk]
        split at hdb
        · cases hdb
        · rename_i hb0
          rw [if_neg hb0]
          rw [Bool.or_eq_false_iff] at hdb ⊢
          exact ⟨l2 _ (by omega) hdb.1, r2 _ (by omega) hdb.2⟩
      · rw [cuts_two h3 hkk, l3, r3, List.map_append]
      · rw [drk_two hkk, l4, r4, decide_eq_false (by simp only [T_kind]; omega)]
        rfl
      · rw [fill_two h3 hkk, List.append_assoc, l5]
        simp only [r5, T_kind, T_key, T_value]
        have hdg : t.digest = [] := List.length_eq_zero_iff.1 (by omega)
        conv => rhs; rw [← T_eta t, hdg, h]
      · have hdk : t.deep 64 = false → l.deep 64 = false ∧ r.deep 64 = false := fun x => deep_kids hl hr h x
        rcases List.mem_append.1 hp with hp | hp
        · obtain ⟨p1, p2, p3, p4⟩ := l6 p hp
          exact ⟨p1, p2, p3, fun x => p4 (hdk x).1⟩
        · obtain ⟨p1, p2, p3, p4⟩ := r6 p hp
          exact ⟨p1, p2, p3, fun x => p4 (hdk x).2⟩
theorem back_fit (w : Int) (hw : 1 ≤ w ∧ w ≤ 32) (t : T) (hf : t.formed = true) (hfl : t.full = true) (hdp : t.deep 64 = false) (n : Nat) (k : Nat) (hk : k < (partT n t).length) : fitC w (headT w n t) (k : Int) ((partT n t).getD k .no) = 0 := by
  obtain ⟨b1, b2, b3, b4, b5, b6⟩ := back_law w hw t hf hfl n []
  obtain ⟨p1, p2, p3, p4⟩ := b6 _ (getD_mem' (d := .no) hk)
  obtain ⟨d, hd⟩ := full_dig w hw _ p1 p2
  have hc : (headT w n t).chk = 0 := chk_good b1 (b2 64 (by omega) hdp)
  have hc2 : ((partT n t).getD k .no).chk = 0 := chk_good p1 (p4 hdp)
  have hlen : (headT w n t).cuts.length = (partT n t).length := by rw [b3, List.length_map]
  have hg : ((headT w n t).cuts.getD k .no).digest = dgV (((partT n t).getD k .no).dig w) := by
    rw [b3]
    simp only [List.getD_eq_getElem?_getD, List.getElem?_map, List.getElem?_eq_getElem hk, Option.map_some, Option.getD_some, mk3, T_digest]
  have hne : ¬ ((((partT n t).getD k .no).dig w).isSome = false ∨ ((partT n t).getD k .no).full = false ∨ ((partT n t).getD k .no).kids = []) := by
    rw [hd, p2]
    rintro (h | h | h)
    · cases h
    · cases h
    · exact p3 h
  unfold fitC
  rw [if_neg (fun x => x hw), if_neg (fun x => x hc), if_neg (fun x => x hc2), if_neg hne, if_neg (by omega), Int.toNat_natCast, hg, if_pos (beq_self_eq_true _)]
theorem back_join (w : Int) (hw : 1 ≤ w ∧ w ≤ 32) (t : T) (hf : t.formed = true) (hfl : t.full = true) (hdp : t.deep 64 = false) (n : Nat) : joinOk w (headT w n t) (partT n t) ∧ ((headT w n t).fill (partT n t)).1 = t := by
  obtain ⟨b1, b2, b3, b4, b5, b6⟩ := back_law w hw t hf hfl n []
  rw [List.append_nil] at b5
  refine ⟨⟨hw, chk_good b1 (b2 64 (by omega) hdp), by rw [b3, List.length_map], b4, jn_some _ 0 fun k hk => ?_, ?_⟩, by rw [b5]⟩
  · rw [Nat.zero_add]
    exact back_fit w hw t hf hfl hdp n k hk
  · rw [b5]
    exact chk_good hf hdp
theorem parts_size : ∀ t : T, t.formed = true → ∀ n, sizeL (partT n t) ≤ t.size := F_ind
  (fun t hf h n => by rw [partT_nil h]; simp [sizeL])
  fun t l r hf h hl hr il ir n => by
    have hz := size_two h
    cases n with
    | zero => rw [partT_0 h]; simp only [sizeL]; omega
    | succ n =>
      have i1 := il n
      have i2 := ir n
      have e : ∀ a b : List T, sizeL (a ++ b) = sizeL a + sizeL b := fun a b => by
        induction a with
        | nil => simp [sizeL]
        | cons x a ih => simp only [List.cons_append, sizeL, ih]; omega
      rw [partT_s h, e]
      omega
theorem head_size (w : Int) (hw : 1 ≤ w ∧ w ≤ 32) : ∀ t : T, t.formed = true → ∀ n, (headT w n t).size ≤ t.size + 33 * t.list.length := F_ind
  (fun t hf h n => by rw [headT_nil h]; omega)
  fun t l r hf h hl hr il ir n => by
    have hz := size_two h
    rw [list_two h, List.length_append, List.length_cons]
    cases n with
    | zero =>
      rw [headT_0 h]
      cases hd : t.dig w with
      | none => simp only [dgV, T.size, sizeL, List.length_nil]; omega
      | some d =>
        have := dig_len w hw t hf d hd
        simp only [dgV, T.size, sizeL, List.length_nil]; omega
    | succ n =>
      have i1 := il n
      have i2 := ir n
      rw [headT_s h]
      simp only [T.size, sizeL, List.length_nil]
      omega
theorem part_sz : ∀ t : T, t.formed = true → ∀ n, ∀ k ∈ partT n t, k.size ≤ t.size := fun t hf n k hk => by
  have := parts_size t hf n
  have := sizeL_mem hk
  omega

end Go.Proofs.YtebiajdkgpcidaaDoor
namespace Go.Proofs.YtebiajdkgpcidaaDoor
open Go.Ev

theorem cback_loop (w : Int) (hw : 1 ≤ w ∧ w ≤ 32) (t c : T) (ps : List T) (hc : c.size ≤ 1048576) (hl : ps.length ≤ 1048576) (hs : ∀ p ∈ ps, p.size ≤ 1048576) (hfit : ∀ k, k < ps.length → fitC w c (k : Int) (ps.getD k .no) = 0) : ∀ (n i : Nat), n + i = ps.length → L_law11_ChunkBack_0 (s_law11_ChunkBack_K0 (i64 w) (bo true) (.ptr 0 0) (.ptr 1 0) (.sl true (eT ps)) (i64 i) [some (oT t), some (oT c), none, none]) = some (.exit 0, s_law11_ChunkBack_J0 (i64 w) (bo true) (.ptr 0 0) (.ptr 1 0) (.sl true (eT ps)) [some (oT t), some (oT c), none, none])
  | 0, i, h => by
    rw [L_law11_ChunkBack_0_eq]
    simp (maxSteps := 1000000) (disch := first | omega | (simp only [List.length_cons, List.length_nil, List.length_append, List.length_map, List.length_take, List.length_drop]; omega)) only [go_sem, ↓reduceIte, Nat.reduceSub, Nat.reduceAdd, Nat.reduceMul, Nat.reduceLeDiff, Nat.reduceLT, Nat.reduceEqDiff, Nat.reduceBEq, Int.reduceLE, Int.reduceLT, Int.reduceEq, Int.reduceNeg, Int.reduceAdd, Int.reduceSub, Int.reduceMul, Int.reduceToNat, i_law11_ChunkBack_b0]
  | n + 1, i, h => by
    have ih := cback_loop w hw t c ps hc hl hs hfit n (i + 1) (by omega)
    have h1 := chunk_Fits_ev w c i (ps.getD i .no) (by omega) (by omega) hc (hs _ (getD_mem' (by omega)))
    rw [hfit i (by omega), errV, if_pos rfl] at h1
    rw [L_law11_ChunkBack_0_eq]
    generalize hd : ps.getD i .no = p at *
    try simp (maxSteps := 1000000) (disch := first | omega | (simp only [List.length_cons, List.length_nil, List.length_append, List.length_map, List.length_take, List.length_drop]; omega)) only [go_sem, ↓reduceIte, Nat.reduceSub, Nat.reduceAdd, Nat.reduceMul, Nat.reduceLeDiff, Nat.reduceLT, Nat.reduceEqDiff, Nat.reduceBEq, Int.reduceLE, Int.reduceLT, Int.reduceEq, Int.reduceNeg, Int.reduceAdd, Int.reduceSub, Int.reduceMul, Int.reduceToNat] at ih
    simp (maxSteps := 1000000) (disch := first | omega | (simp only [List.length_cons, List.length_nil, List.length_append, List.length_map, List.length_take, List.length_drop]; omega)) only [go_sem, ↓reduceIte, Nat.reduceSub, Nat.reduceAdd, Nat.reduceMul, Nat.reduceLeDiff, Nat.reduceLT, Nat.reduceEqDiff, Nat.reduceBEq, Int.reduceLE, Int.reduceLT, Int.reduceEq, Int.reduceNeg, Int.reduceAdd, Int.reduceSub, Int.reduceMul, Int.reduceToNat, i_law11_ChunkBack_b0, hd, h1, ih]
theorem law_ChunkBack (w : Int) (l : List KV) (n : Int) (hw : -9223372036854775808 ≤ w ∧ w < 9223372036854775808) (hl : l.length ≤ 1048576) (hn : -9223372036854775808 ≤ n ∧ n < 9223372036854775808) : ∃ outs, Ev tab G0 n_law11_ChunkBack [i64 w, .sl true (eP l), i64 n] [] = some ([bo true], outs) := by
  have h0 := up11_ev
  obtain ⟨b, hv, hkp, h1⟩ := ref05_Grown_ev l hl
  obtain ⟨s1, s2, s3⟩ := hkp.size (by omega)
  have hf := Bt_formed b hkp.good.ok
  have hfl := Bt_full b
  have hc := Bt_chk b hkp.good.ok (by omega)
  have hdp := chk_deep hc
  have hll : b.t.list.length ≤ 60 := by
    rw [Bt_list_len, hkp.perm.length_eq]
    exact s3
  simp only [avB] at *
  generalize b.t = t at *
  refine ⟨[], Ev_run t_law11_ChunkBack rfl rfl ?_⟩
  by_cases hz : cutC w t n = 0
  · have hn2 : 0 ≤ n ∧ n ≤ 64 ∧ (1 ≤ w ∧ w ≤ 32) := by
      unfold cutC at hz
      split at hz
      · cases hz
      · omega
    obtain ⟨n0, n1, hg⟩ := hn2
    have en : ((n.toNat : Nat) : Int) = n := by omega
    have h2 := chunk_Cut_good w t n.toNat (by omega) (by rw [en]; exact hz)
    rw [en] at h2
    obtain ⟨hj, hfe⟩ := back_join w hg t hf hfl hdp n.toNat
    have hfit := back_fit w hg t hf hfl hdp n.toNat
    have hps := parts_size t hf n.toNat
    have hhs := head_size w hg t hf n.toNat
    have hpz := part_sz t hf n.toNat
    have hpl := partT_len t hf n.toNat
    have h4 : Ev tab G0 n_chunk_Join [i64 w, avT (headT w n.toNat t), .sl true (eT (partT n.toNat t))] [] = some ([avT t, .s .nilIface], []) := by
      have := chunk_Join_good w (headT w n.toNat t) (partT n.toNat t) (by omega) hj
      rwa [hfe] at this
    have h5 := Count_ev (headT w n.toNat t) (by omega)
    rw [if_pos hj.2.1, hj.2.2.1] at h5
    have h6 := ref04_Same_self t (by omega)
    have h3 := cback_loop w hg t (headT w n.toNat t) (partT n.toNat t) (by omega) (by omega) (fun p hp => by have := hpz p hp; omega) hfit (partT n.toNat t).length 0 (by omega)
    have e0 : ((0 : Nat) : Int) = 0 := rfl
    rw [e0] at h3
    generalize headT w n.toNat t = u at *
    generalize partT n.toNat t = ps at *
    simp (maxSteps := 1000000) (disch := first | omega | (simp only [List.length_cons, List.length_nil, List.length_append, List.length_map, List.length_take, List.length_drop]; omega)) only [go_sem, ↓reduceIte, Nat.reduceSub, Nat.reduceAdd, Nat.reduceMul, Nat.reduceLeDiff, Nat.reduceLT, Nat.reduceEqDiff, Nat.reduceBEq, Int.reduceLE, Int.reduceLT, Int.reduceEq, Int.reduceNeg, Int.reduceAdd, Int.reduceSub, Int.reduceMul, Int.reduceToNat, i_law11_ChunkBack, h0, h1, h2, h3, h4, h5, h6]
  · have h2 := chunk_Cut_bad w t n hw hn (by omega) hz
    have e1 : cutC w t n = 1 := by
      unfold cutC at hz ⊢
      by_cases h : n < 0 ∨ 64 < n ∨ ¬ (1 ≤ w ∧ w ≤ 32)
      · rw [if_pos h]
      · rw [if_neg h, if_neg (fun x => x hc)] at hz
        obtain ⟨d, hd⟩ := full_dig w (by omega) t hf hfl
        rw [hd, hfl] at hz
        simp at hz
    have e0 : avT T.no = .agg [i64 0, .sl true [], .sl true [], .sl true [], .sl true []] := rfl
    rw [e1, e0] at h2
    simp (maxSteps := 1000000) (disch := first | omega | (simp only [List.length_cons, List.length_nil, List.length_append, List.length_map, List.length_take, List.length_drop]; omega)) only [go_sem, ↓reduceIte, Nat.reduceSub, Nat.reduceAdd, Nat.reduceMul, Nat.reduceLeDiff, Nat.reduceLT, Nat.reduceEqDiff, Nat.reduceBEq, Int.reduceLE, Int.reduceLT, Int.reduceEq, Int.reduceNeg, Int.reduceAdd, Int.reduceSub, Int.reduceMul, Int.reduceToNat, i_law11_ChunkBack, h0, h1, h2]

end Go.Proofs.YtebiajdkgpcidaaDoor
