/-
  Contracts by plain functions: (*ekf.Filter).step
-/
import Derived.Test.YtphkdkkbbfnkaaaGreatQ5
set_option maxRecDepth 100000
set_option maxHeartbeats 4000000
set_option linter.unusedVariables false
noncomputable section
namespace Go.Proofs.YtphkdkkbbfnkaaaGreat
open Go.Ab Go.Ab.Pg
end Go.Proofs.YtphkdkkbbfnkaaaGreat
