/-
  The document's examples; what is written.
-/
import Derived.Test.YtebiajdkgpcidaaLCodeW2
import Derived.KernelRfl
set_option linter.unusedSimpArgs false
set_option linter.unusedVariables false
set_option maxRecDepth 200000
set_option maxHeartbeats 4000000
namespace Go.Proofs.Ytebiajdkgpcidaa
open Go.Ev

theorem up10_ev : Ev tab G0 n_law10_up [] [] = some ([bo true], []) := Ev_by 40 (by kernel_rfl)
end Go.Proofs.Ytebiajdkgpcidaa
