/-
  The carries of math/bits, as they stand in the program.
-/
import Derived.Test.YtcalippagaaikaaAbNil
namespace Go.Proofs.Ytcalippagaaikaa
open Go.Ab
theorem s_Sub64 : Sound Try.prog 88 (F_carry f_Sub64) := carry_of (sub64_sound (fn := Try.f88) Try.func88 (by kernel_rfl) (by kernel_rfl) (by kernel_rfl) (by kernel_rfl))
end Go.Proofs.Ytcalippagaaikaa
