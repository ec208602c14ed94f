/-
  slices.Clone of bytes, by the evaluator.
-/
import Derived.Test.YthaegfemlhibfaaDoorIr
set_option linter.unusedSimpArgs false
set_option linter.unusedVariables false
set_option maxRecDepth 200000
set_option maxHeartbeats 4000000
namespace Go.Proofs.YthaegfemlhibfaaDoor
open Go.Ev

end Go.Proofs.YthaegfemlhibfaaDoor
