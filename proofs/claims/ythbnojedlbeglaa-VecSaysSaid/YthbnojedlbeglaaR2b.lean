/-
  The second reckoner (astrolaberef2) in plain arithmetic: sums and differences of two.
-/
import Derived.Test.YthbnojedlbeglaaR1b
import Derived.Test.YthbnojedlbeglaaR2
set_option maxRecDepth 100000
set_option maxHeartbeats 4000000
set_option linter.unusedVariables false
set_option linter.unusedSimpArgs false
namespace Go.Proofs.Ythbnojedlbeglaa
open Go.Ab
theorem ref_add (a b : Int) (hit : Bool) : f___astrolaberef2_Acc__Add a b hit = some (sat (sat a + sat b), ((hit || over a) || over b) || over (sat a + sat b)) := by
  unfold f___astrolaberef2_Acc__Add K___astrolaberef2_Acc__Add
  have := sat_le a
  have := sat_le b
  simp only [ref_sat, Option.bind_some, wrap_i64 (n := sat a + sat b) (by omega) (by omega)]
theorem ref_sub (a b : Int) (hit : Bool) : f___astrolaberef2_Acc__Sub a b hit = some (sat (sat a - sat b), ((hit || over a) || over b) || over (sat a - sat b)) := by
  unfold f___astrolaberef2_Acc__Sub K___astrolaberef2_Acc__Sub
  have := sat_le a
  have := sat_le b
  simp only [ref_sat, Option.bind_some, wrap_i64 (n := sat a - sat b) (by omega) (by omega)]
end Go.Proofs.Ythbnojedlbeglaa
