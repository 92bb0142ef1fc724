/-
  The carries of math/bits, as they stand in the program.
-/
import Derived.Test.YthbnojedlbeglaaAbNil
namespace Go.Proofs.Ythbnojedlbeglaa
open Go.Ab
theorem s_Sub64 : Sound Try.prog 101 (F_carry f_Sub64) := carry_of (sub64_sound (fn := Try.f101) Try.func101 (by kernel_rfl) (by kernel_rfl) (by kernel_rfl) (by kernel_rfl))
end Go.Proofs.Ythbnojedlbeglaa
