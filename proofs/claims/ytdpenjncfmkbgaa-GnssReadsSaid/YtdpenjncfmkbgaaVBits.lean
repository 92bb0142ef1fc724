/-
  The carries of math/bits, as they stand in the program.
-/
import Derived.Test.YtdpenjncfmkbgaaAbNil
namespace Go.Proofs.Ytdpenjncfmkbgaa
open Go.Ab
theorem s_Sub64 [Amb] : Sound Try.prog 95 (F_carry f_Sub64) := carry_of (sub64_sound (fn := Try.f95) Try.func95 (by kernel_rfl) (by kernel_rfl) (by kernel_rfl) (by kernel_rfl))
end Go.Proofs.Ytdpenjncfmkbgaa
