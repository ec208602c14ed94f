/-
  Trees of which all is told, as binary trees.
-/
import Derived.Test.YtfihodpdjpcpfaaLTree5
import Derived.Test.YtfihodpdjpcpfaaLStr
set_option linter.unusedSimpArgs false
set_option linter.unusedVariables false
set_option maxRecDepth 200000
set_option maxHeartbeats 4000000
namespace Go.Proofs.Ytfihodpdjpcpfaa
open Go.Ev

attribute [go_sem] T_kind T_key T_value T_digest T_kids
inductive B where
  | n
  | d (l : B) (k v : List UInt8) (r : B)
namespace B
def t : B → T
  | .n => .no
  | .d l k v r => .mk 1 k v [] [l.t, r.t]
def depth : B → Int
  | .n => 0
  | .d l _ _ r => max l.depth r.depth + 1
def bal : B → Bool
  | .n => true
  | .d l _ _ r => l.bal && r.bal && decide (l.depth - r.depth ≤ 1) && decide (r.depth - l.depth ≤ 1)
def list : B → List (List UInt8 × List UInt8)
  | .n => []
  | .d l k v r => l.list ++ (k, v) :: r.list
/-- Keys and values are short enough. -/
def ok : B → Bool
  | .n => true
  | .d l k v r => l.ok && r.ok && decide (k.length ≤ 80) && decide (v.length ≤ 1024)
def nodes : B → Nat
  | .n => 0
  | .d l _ _ r => l.nodes + r.nodes + 1
end B
theorem Bt_n : B.n.t = .no := rfl
theorem Bt_d {l r : B} {k v : List UInt8} : (B.d l k v r).t = .mk 1 k v [] [l.t, r.t] := rfl
theorem no_kids : T.no.kids = [] := rfl
theorem no_kind : T.no.kind = 0 := rfl
theorem no_key : T.no.key = [] := rfl
theorem no_value : T.no.value = [] := rfl
theorem no_digest : T.no.digest = [] := rfl
attribute [go_sem] no_kids no_kind no_key no_value no_digest
theorem no_formed : T.no.formed = true := rfl
theorem Bt_kids {l r : B} {k v : List UInt8} : (B.d l k v r).t.kids = [l.t, r.t] := rfl
theorem Bt_formed : ∀ b : B, b.ok = true → b.t.formed = true
  | .n, _ => rfl
  | .d l k v r, h => by
    simp only [B.ok, Bool.and_eq_true, decide_eq_true_eq] at h
    obtain ⟨⟨⟨h1, h2⟩, h3⟩, h4⟩ := h
    have f1 := Bt_formed l h1
    have f2 := Bt_formed r h2
    rw [Bt_d]
    simp only [T.formed, formedL, f1, f2, Bool.and_self, Bool.and_true, decide_eq_true_eq]
    exact .inr (.inl ⟨rfl, h3, h4, rfl, rfl⟩)
theorem Bt_full : ∀ b : B, b.t.full = true
  | .n => rfl
  | .d l k v r => by
    have f1 := Bt_full l
    have f2 := Bt_full r
    rw [Bt_d]
    simp [T.full, fullL, f1, f2]
theorem Bt_depth : ∀ b : B, b.t.depth = b.depth
  | .n => rfl
  | .d l k v r => by rw [depth_two Bt_kids, Bt_depth l, Bt_depth r, B.depth]
theorem Bt_bal : ∀ b : B, b.t.bal = b.bal
  | .n => rfl
  | .d l k v r => by rw [bal_two Bt_kids, Bt_bal l, Bt_bal r, Bt_depth l, Bt_depth r, B.bal]
theorem Bd_nn : ∀ b : B, 0 ≤ b.depth
  | .n => by simp [B.depth]
  | .d l k v r => by have := Bd_nn l; simp only [B.depth]; omega
theorem Bd_nodes : ∀ b : B, b.depth ≤ b.nodes
  | .n => by simp [B.depth, B.nodes]
  | .d l k v r => by have := Bd_nodes l; have := Bd_nodes r; simp only [B.depth, B.nodes]; omega
theorem Bl_nodes : ∀ b : B, b.list.length = b.nodes
  | .n => rfl
  | .d l k v r => by simp only [B.list, B.nodes, List.length_append, List.length_cons, Bl_nodes l, Bl_nodes r]; omega
theorem Bt_deep : ∀ (b : B) (n : Int), 0 ≤ n → b.t.deep n = decide (n < b.depth)
  | .n, n, h => by
    rw [deep_eq]
    have : ¬ (T.no.kind = 1 ∨ T.no.kind = 2 ∨ 0 < T.no.kids.length) := by simp [T.no, T.kind, T.kids]
    rw [Bt_n, if_neg (fun h => this h.1), no_kids, deepL, decide_eq_false (by simp only [B.depth]; omega)]
  | .d l k v r, n, h => by
    have h1 := Bd_nn l
    have h2 := Bd_nn r
    rw [deep_eq]
    by_cases hn : n = 0
    · have : ((B.d l k v r).t.kind = 1 ∨ (B.d l k v r).t.kind = 2 ∨ 0 < (B.d l k v r).t.kids.length) ∧ n = 0 := ⟨.inl rfl, hn⟩
      rw [if_pos this]
      exact (decide_eq_true (by simp only [B.depth]; omega)).symm
    · rw [if_neg (fun h => hn h.2), Bt_kids]
      simp only [deepL, Bt_deep l (n - 1) (by omega), Bt_deep r (n - 1) (by omega), Bool.or_false, B.depth]
      rw [← Bool.decide_or]
      exact decide_eq_decide.mpr (by omega)
theorem Bt_chk (b : B) (h : b.ok = true) (hd : b.depth ≤ 64) : b.t.chk = 0 := by
  have h1 := Bt_deep b 64 (by omega)
  rw [decide_eq_false (by omega)] at h1
  rw [T.chk, h1, Bt_formed b h]
  simp
/-- Each tree that is formed and of which all is told. -/
theorem of_full : ∀ t : T, t.formed = true → t.full = true → ∃ b : B, b.t = t ∧ b.ok = true := F_ind
  (fun t hf h hfull => by
    rw [formed_eq] at hf
    simp only [Bool.and_eq_true, decide_eq_true_eq] at hf
    have hok := hf.1
    rw [full_eq] at hfull
    have hk : ¬ 1 < t.kind := fun hc => by rw [if_pos hc] at hfull; cases hfull
    unfold okT at hok
    refine ⟨.n, ?_, rfl⟩
    have e1 : t.kids.length = 0 := by rw [h]; rfl
    have e2 : t.kind = 0 := by omega
    have e3 : t.key = [] := List.eq_nil_of_length_eq_zero (by omega)
    have e4 : t.value = [] := List.eq_nil_of_length_eq_zero (by omega)
    have e5 : t.digest = [] := List.eq_nil_of_length_eq_zero (by omega)
    rw [← T_eta t, e2, e3, e4, e5, h]
    rfl)
  fun t l r hf h hl hr ih1 ih2 hfull => by
    rw [formed_eq] at hf
    simp only [Bool.and_eq_true, decide_eq_true_eq] at hf
    have hok := hf.1
    rw [full_eq] at hfull
    have hk : ¬ 1 < t.kind := fun hc => by rw [if_pos hc] at hfull; cases hfull
    rw [if_neg hk, h] at hfull
    simp only [fullL, Bool.and_eq_true] at hfull
    obtain ⟨bl, el, ol⟩ := ih1 hfull.1
    obtain ⟨br, er, or'⟩ := ih2 hfull.2.1
    have e1 : t.kids.length = 2 := by rw [h]; rfl
    unfold okT at hok
    have e2 : t.kind = 1 := by omega
    have e5 : t.digest = [] := List.eq_nil_of_length_eq_zero (by omega)
    refine ⟨.d bl t.key t.value br, ?_, ?_⟩
    · rw [Bt_d, el, er, ← e5, ← e2, ← h, T_eta]
    · simp only [B.ok, ol, or', Bool.and_self, Bool.true_and, Bool.and_eq_true, decide_eq_true_eq]
      omega
theorem Bt_size {l r : B} {k v : List UInt8} : (B.d l k v r).t.size = 1 + k.length + v.length + (l.t.size + r.t.size) := by
  rw [size_two Bt_kids]
  show 1 + k.length + v.length + ([] : List UInt8).length + _ = _
  simp
theorem Bn_size : B.n.t.size = 1 := rfl
theorem Bt_nodes : ∀ b : B, b.nodes ≤ b.t.size
  | .n => by simp [B.nodes]
  | .d l k v r => by rw [Bt_size]; have := Bt_nodes l; have := Bt_nodes r; simp only [B.nodes]; omega
theorem Bd_size (b : B) : b.depth ≤ b.t.size := by have := Bd_nodes b; have := Bt_nodes b; omega
/-! ### Leveling -/
/-- Turned to the right. -/
def rotR : B → B
  | .d (.d ll lk lv lr) k v r => .d ll lk lv (.d lr k v r)
  | b => b
def rotL : B → B
  | .d l k v (.d rl rk rv rr) => .d (.d l k v rl) rk rv rr
  | b => b
def B.lt : B → Bool    -- is the left part of lesser depth?
  | .d l _ _ r => decide (l.depth < r.depth)
  | .n => false
def B.gt : B → Bool
  | .d l _ _ r => decide (r.depth < l.depth)
  | .n => false
def lev (l : B) (k v : List UInt8) (r : B) : B :=
  if 1 < l.depth - r.depth then rotR (.d (if l.lt = true then rotL l else l) k v r)
  else if l.depth - r.depth < -1 then rotL (.d l k v (if r.gt = true then rotR r else r))
  else .d l k v r
theorem depth_pos {b : B} (h : 0 < b.depth) : ∃ l k v r, b = .d l k v r := by
  cases b with
  | n => simp [B.depth] at h
  | d l k v r => exact ⟨l, k, v, r, rfl⟩
theorem lev_list (l : B) (k v : List UInt8) (r : B) : (lev l k v r).list = l.list ++ (k, v) :: r.list := by
  unfold lev
  split
  · split
    · cases l with
      | n => simp [B.lt] at *
      | d ll lk lv lr => cases lr with
        | n => simp [rotL, rotR, B.list]
        | d a b c e => simp [rotL, rotR, B.list]
    · cases l <;> simp [rotR, B.list]
  · split
    · split
      · cases r with
        | n => simp [B.gt] at *
        | d rl rk rv rr => cases rl with
          | n => simp [rotL, rotR, B.list]
          | d a b c e => simp [rotL, rotR, B.list]
      · cases r <;> simp [rotL, B.list]
    · simp [B.list]
theorem lev_ok (l : B) (k v : List UInt8) (r : B) : (lev l k v r).ok = (B.d l k v r).ok := by
  have key : ∀ a b c d e f g : Bool, (a && b && c && d) = (b && a && c && d) := fun a b c d _ _ _ => by cases a <;> cases b <;> rfl
  unfold lev
  split
  · split
    · cases l with
      | n => simp [B.lt] at *
      | d ll lk lv lr => cases lr with
        | n => simp [rotL, rotR, B.ok]; grind
        | d a b c e => simp [rotL, rotR, B.ok]; grind
    · cases l <;> simp [rotR, B.ok] <;> grind
  · split
    · split
      · cases r with
        | n => simp [B.gt] at *
        | d rl rk rv rr => cases rl with
          | n => simp [rotL, rotR, B.ok]; grind
          | d a b c e => simp [rotL, rotR, B.ok]; grind
      · cases r <;> simp [rotL, B.ok] <;> grind
    · rfl
theorem bal_d (l : B) (k v : List UInt8) (r : B) : ((B.d l k v r).bal = true) = (l.bal = true ∧ r.bal = true ∧ l.depth - r.depth ≤ 1 ∧ r.depth - l.depth ≤ 1) := by
  simp only [B.bal, Bool.and_eq_true, decide_eq_true_eq, and_assoc]
theorem lev_bal (l : B) (k v : List UInt8) (r : B) (hl : l.bal = true) (hr : r.bal = true) (h1 : l.depth - r.depth ≤ 2) (h2 : r.depth - l.depth ≤ 2) : (lev l k v r).bal = true ∧ max l.depth r.depth ≤ (lev l k v r).depth ∧ (lev l k v r).depth ≤ max l.depth r.depth + 1 ∧ (l.depth - r.depth ≤ 1 → r.depth - l.depth ≤ 1 → (lev l k v r).depth = max l.depth r.depth + 1) := by
  have hrn := Bd_nn r
  have hln := Bd_nn l
  unfold lev
  split
  · rename_i hc
    obtain ⟨ll, lk, lv, lr, rfl⟩ := depth_pos (b := l) (by omega)
    have hlln := Bd_nn ll
    have hlrn := Bd_nn lr
    rw [bal_d] at hl
    obtain ⟨b1, b2, b3, b4⟩ := hl
    simp only [B.depth] at hc h1 h2 hln ⊢
    split
    · rename_i hlt
      simp only [B.lt, decide_eq_true_eq] at hlt
      obtain ⟨a, ck, cv, c, rfl⟩ := depth_pos (b := lr) (by omega)
      have han := Bd_nn a
      have hcn := Bd_nn c
      rw [bal_d] at b2
      obtain ⟨c1, c2, c3, c4⟩ := b2
      simp only [B.depth] at *
      simp only [rotL, rotR, bal_d, B.depth, b1, c1, c2, hr, true_and]
      omega
    · rename_i hlt
      simp only [B.lt, decide_eq_true_eq] at hlt
      simp only [rotR, bal_d, B.depth, b1, b2, hr, true_and]
      omega
  · rename_i hc0
    split
    · rename_i hc
      obtain ⟨rl, rk, rv, rr, rfl⟩ := depth_pos (b := r) (by omega)
      have hrln := Bd_nn rl
      have hrrn := Bd_nn rr
      rw [bal_d] at hr
      obtain ⟨b1, b2, b3, b4⟩ := hr
      simp only [B.depth] at hc h1 h2 hrn ⊢
      split
      · rename_i hlt
        simp only [B.gt, decide_eq_true_eq] at hlt
        obtain ⟨a, ck, cv, c, rfl⟩ := depth_pos (b := rl) (by omega)
        have han := Bd_nn a
        have hcn := Bd_nn c
        rw [bal_d] at b1
        obtain ⟨c1, c2, c3, c4⟩ := b1
        simp only [B.depth] at *
        simp only [rotL, rotR, bal_d, B.depth, b2, c1, c2, hl, true_and]
        omega
      · rename_i hlt
        simp only [B.gt, decide_eq_true_eq] at hlt
        simp only [rotL, bal_d, B.depth, b1, b2, hl, true_and]
        omega
    · simp only [bal_d, B.depth, hl, hr, true_and]
      exact ⟨⟨by omega, by omega⟩, by omega, by omega, fun _ _ => trivial⟩

end Go.Proofs.Ytfihodpdjpcpfaa
