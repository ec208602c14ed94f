/-
  Trees: whether they are formed, and what is amiss.
-/
import Derived.Test.YtfihodpdjpcpfaaLTree
import Derived.Test.YtfihodpdjpcpfaaLCode0
set_option linter.unusedSimpArgs false
set_option linter.unusedVariables false
set_option maxRecDepth 200000
set_option maxHeartbeats 4000000
namespace Go.Proofs.Ytfihodpdjpcpfaa
open Go.Ev

def okT (t : T) : Prop := (t.kind = 0 ∧ t.key.length = 0 ∧ t.value.length = 0 ∧ t.digest.length = 0 ∧ t.kids.length = 0) ∨ (t.kind = 1 ∧ t.key.length ≤ 80 ∧ t.value.length ≤ 1024 ∧ t.digest.length = 0 ∧ t.kids.length = 2) ∨ (t.kind = 2 ∧ t.key.length ≤ 80 ∧ t.value.length = 0 ∧ t.kids.length = 2) ∨ (t.kind = 3 ∧ t.key.length = 0 ∧ t.value.length = 0 ∧ t.kids.length = 0)
instance (t : T) : Decidable (okT t) := by unfold okT; infer_instance
mutual
def T.formed : T → Bool
  | .mk k a b c l => decide (okT (.mk k a b c l)) && formedL l
def formedL : List T → Bool
  | [] => true
  | t :: l => t.formed && formedL l
end
theorem formed_eq (t : T) : t.formed = (decide (okT t) && formedL t.kids) := by cases t; simp only [T.formed]; rfl
end Go.Proofs.Ytfihodpdjpcpfaa
