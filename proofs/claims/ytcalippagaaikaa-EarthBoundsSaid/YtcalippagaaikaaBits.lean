/-
  The carries of math/bits, as they stand in the program.
-/
import Derived.Test.YtcalippagaaikaaAbNil
namespace Go.Proofs.Ytcalippagaaikaa
open Go.Ab
theorem s_Add64 : Sound Try.prog 87 (F_carry f_Add64) := carry_of (add64_sound (fn := Try.f87) Try.func87 (by kernel_rfl) (by kernel_rfl) (by kernel_rfl) (by kernel_rfl))
end Go.Proofs.Ytcalippagaaikaa
