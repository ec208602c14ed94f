/-
  Trees: depths, kinds, what is told.
-/
import Derived.Test.YtdngljdbgepaiaaGreatDoorLTold
set_option linter.unusedSimpArgs false
set_option linter.unusedVariables false
set_option maxRecDepth 200000
set_option maxHeartbeats 4000000
namespace Go.Proofs.YtdngljdbgepaiaaGreatDoor
open Go.Ev

theorem dig_kids {w : Int} {t l r : T} {d : List UInt8} (hw : 1 ≤ w ∧ w ≤ 32) (hf : t.formed = true) (h : t.kids = [l, r]) (hd : t.dig w = some d) : (∃ x, l.dig w = some x) ∧ ∃ y, r.dig w = some y := by
  have ho := okT_of hf
  unfold okT at ho
  rw [h] at ho
  simp only [List.length_cons, List.length_nil] at ho
  have hk : t.kind = 1 ∨ t.kind = 2 := by omega
  rcases hk with hk | hk
  · rw [dig_1 hw hk h] at hd
    cases e1 : l.dig w <;> cases e2 : r.dig w <;> rw [e1, e2] at hd <;> simp_all
  · rw [dig_2 hk h] at hd
    split at hd
    · cases e1 : l.dig w <;> cases e2 : r.dig w <;> rw [e1, e2] at hd <;> simp_all
    · cases hd
theorem deepL_two {l r : T} {b : Int} : deepL [l, r] b = (l.deep b || (r.deep b || false)) := by simp only [deepL]
theorem deep_two {t l r : T} {b : Int} (h : t.kids = [l, r]) : t.deep b = if b = 0 then true else (l.deep (b - 1) || r.deep (b - 1)) := by
  rw [deep_eq, h, deepL_two, Bool.or_false]
  simp only [List.length_cons, List.length_nil]
  by_cases hb : b = 0
  · rw [if_pos ⟨by omega, hb⟩, if_pos hb]
  · rw [if_neg (fun x => hb x.2), if_neg hb]
theorem deep_nil {t : T} {b : Int} (h : t.kids = []) (hk : t.kind = 0 ∨ t.kind = 3) : t.deep b = false := by
  rw [deep_eq, h, if_neg (by simp only [List.length_nil]; omega)]
  rfl
theorem kind_nil {t : T} (hf : t.formed = true) (h : t.kids = []) : t.kind = 0 ∨ t.kind = 3 := by
  have ho := okT_of hf
  unfold okT at ho
  rw [h] at ho
  simp only [List.length_nil] at ho
  omega
theorem kind_two {t l r : T} (hf : t.formed = true) (h : t.kids = [l, r]) : t.kind = 1 ∨ t.kind = 2 := by
  have ho := okT_of hf
  unfold okT at ho
  rw [h] at ho
  simp only [List.length_cons, List.length_nil] at ho
  omega
theorem deep_mono : ∀ t : T, t.formed = true → ∀ b c : Int, 0 ≤ b → b ≤ c → t.deep b = false → t.deep c = false := F_ind
  (fun t hf h b c _ _ _ => deep_nil h (kind_nil hf h))
  fun t l r hf h hl hr il ir b c h0 hbc hd => by
    rw [deep_two h] at hd ⊢
    split at hd
    · cases hd
    · rw [if_neg (by omega)]
      rw [Bool.or_eq_false_iff] at hd ⊢
      exact ⟨il _ _ (by omega) (by omega) hd.1, ir _ _ (by omega) (by omega) hd.2⟩
theorem deep_kids {t l r : T} (hl : l.formed = true) (hr : r.formed = true) (h : t.kids = [l, r]) (hd : t.deep 64 = false) : l.deep 64 = false ∧ r.deep 64 = false := by
  rw [deep_two h, if_neg (by decide), Bool.or_eq_false_iff] at hd
  exact ⟨deep_mono l hl _ _ (by decide) (by decide) hd.1, deep_mono r hr _ _ (by decide) (by decide) hd.2⟩
theorem chk_deep {t : T} (h : t.chk = 0) : t.deep 64 = false := by
  unfold T.chk at h
  split at h
  · cases h
  · rename_i hd
    simpa using hd
theorem chk_good {t : T} (hf : t.formed = true) (hd : t.deep 64 = false) : t.chk = 0 := by
  unfold T.chk
  rw [hd, hf]
  rfl
theorem eT_2 {a b : T} : eT [a, b] = [[C.sc (.int .i64 a.kind), .sl (eB a.key), .sl (eB a.value), .sl (eB a.digest), .sl (eT a.kids)], [C.sc (.int .i64 b.kind), .sl (eB b.key), .sl (eB b.value), .sl (eB b.digest), .sl (eT b.kids)]] := by simp only [eT, cells_eq]
theorem avT_2 {k : Int} {a b c : List UInt8} {l : List T} : avT (.mk k a b c l) = .agg [i64 k, .sl true (eB a), .sl true (eB b), .sl true (eB c), .sl true (eT l)] := rfl
theorem avT_lf {k : Int} {a b c : List UInt8} : avT (.mk k a b c []) = .agg [i64 k, .sl true (eB a), .sl true (eB b), .sl true (eB c), .sl true []] := rfl
theorem eB_n0 : eB [] = [] := rfl

end Go.Proofs.YtdngljdbgepaiaaGreatDoor
