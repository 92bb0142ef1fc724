/-
  The carries of math/bits, as they stand in the program.
-/
import Derived.Test.YtdpenjncfmkbgaaAbNil
namespace Go.Proofs.Ytdpenjncfmkbgaa
open Go.Ab
theorem s_Add64 [Amb] : Sound Try.prog 91 (F_carry f_Add64) := carry_of (add64_sound (fn := Try.f91) Try.func91 (by kernel_rfl) (by kernel_rfl) (by kernel_rfl) (by kernel_rfl))
end Go.Proofs.Ytdpenjncfmkbgaa
