/-
  The carries of math/bits, as they stand in the program.
-/
import Derived.Test.YthbnojedlbeglaaAbNil
namespace Go.Proofs.Ythbnojedlbeglaa
open Go.Ab
theorem s_Add64 [Amb] : Sound Try.prog 97 (F_carry f_Add64) := carry_of (add64_sound (fn := Try.f97) Try.func97 (by kernel_rfl) (by kernel_rfl) (by kernel_rfl) (by kernel_rfl))
end Go.Proofs.Ythbnojedlbeglaa
