/-
  The carries of math/bits, as they stand in the program.
-/
import Derived.Test.YtmlmpcabphgfaaaAbNil
namespace Go.Proofs.Ytmlmpcabphgfaaa
open Go.Ab
theorem s_Add64 [Amb] : Sound Try.prog 88 (F_carry f_Add64) := carry_of (add64_sound (fn := Try.f88) Try.func88 (by kernel_rfl) (by kernel_rfl) (by kernel_rfl) (by kernel_rfl))
end Go.Proofs.Ytmlmpcabphgfaaa
