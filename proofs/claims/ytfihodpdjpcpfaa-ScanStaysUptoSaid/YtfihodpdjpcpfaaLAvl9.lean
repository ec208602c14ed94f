/-
  Laws of putting in and of taking out.
-/
import Derived.Test.YtfihodpdjpcpfaaLAvl8
set_option linter.unusedSimpArgs false
set_option linter.unusedVariables false
set_option maxRecDepth 200000
set_option maxHeartbeats 4000000
namespace Go.Proofs.Ytfihodpdjpcpfaa
open Go.Ev

theorem same_n : Ev tab G0 n_ref04_Same [.agg [i64 0, .sl true [], .sl true [], .sl true [], .sl true []], .agg [i64 0, .sl true [], .sl true [], .sl true [], .sl true []]] [] = some ([bo true], []) := by
  have := ref04_Same_self .no (by rw [← Bt_n, Bn_size]; omega)
  rwa [avB_no] at this
theorem lev_id (l : B) (k v : List UInt8) (r : B) (h1 : l.depth - r.depth ≤ 1) (h2 : r.depth - l.depth ≤ 1) : lev l k v r = .d l k v r := by
  unfold lev
  rw [if_neg (by omega), if_neg (by omega)]
theorem take_absent : ∀ (b : B) (k : List UInt8), b.bal = true → b.get k = none → b.take k = b
  | .n, k, _, _ => rfl
  | .d l a b r, k, hb, hg => by
    rw [bal_d] at hb
    obtain ⟨h1, h2, h3, h4⟩ := hb
    simp only [B.get] at hg
    simp only [B.take]
    by_cases c1 : cmp k a = 0
    · rw [if_pos c1] at hg
      cases hg
    · rw [if_neg c1] at hg
      by_cases c2 : cmp k a < 0
      · rw [if_pos c2] at hg ⊢
        rw [take_absent l k h1 hg, lev_id l a b r h3 h4]
      · rw [if_neg c2] at hg ⊢
        rw [if_pos (by omega), take_absent r k h2 hg, lev_id l a b r h3 h4]
end Go.Proofs.Ytfihodpdjpcpfaa
