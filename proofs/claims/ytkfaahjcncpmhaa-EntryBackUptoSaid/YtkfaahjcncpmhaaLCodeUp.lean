/-
  The document's examples; what is written.
-/
import Derived.Test.YtkfaahjcncpmhaaLCodeW2
import Derived.KernelRfl
set_option linter.unusedSimpArgs false
set_option linter.unusedVariables false
set_option maxRecDepth 200000
set_option maxHeartbeats 4000000
namespace Go.Proofs.Ytkfaahjcncpmhaa
open Go.Ev

end Go.Proofs.Ytkfaahjcncpmhaa
