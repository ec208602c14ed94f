/-
  The pairs of a tree in a span: the law.
-/
import Derived.Test.YtfihodpdjpcpfaaLRange
import Derived.Test.YtfihodpdjpcpfaaLAvl8
set_option linter.unusedSimpArgs false
set_option linter.unusedVariables false
set_option maxRecDepth 200000
set_option maxHeartbeats 4000000
namespace Go.Proofs.Ytfihodpdjpcpfaa
open Go.Ev

end Go.Proofs.Ytfihodpdjpcpfaa
