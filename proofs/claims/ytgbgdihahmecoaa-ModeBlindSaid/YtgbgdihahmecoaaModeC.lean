/-
  The mode package by its own code: the functions that a law's statement calls, put together.
-/
import Derived.Test.YtgbgdihahmecoaaAbW
import Derived.Test.YtgbgdihahmecoaaRows
namespace Go.Proofs.Ytgbgdihahmecoaa
open Go.Ab

theorem mixed : Try.prog.follows .mixedOrders = true := by kernel_rfl
theorem own : ownKnob Try.prog.godebug = none := by kernel_rfl
theorem laid : laidOutB Try.prog = true := by kernel_rfl
noncomputable def M1 : List (Nat × Sem1) := [(19, inl Try.prog [] [] 20 19), (17, inl Try.prog [] [] 20 17), (13, inl Try.prog [] [] 20 13), (14, inl Try.prog [] [] 20 14), (11, inl Try.prog [] [] 20 11), (15, inl Try.prog [] [] 20 15)]
theorem M1_ok : EnvOK Try.prog M1 :=
  .cons (inl_sound (.nil _) mixed [] 20 (by kernel_rfl)) (.cons (inl_sound (.nil _) mixed [] 20 (by kernel_rfl)) (.cons (inl_sound (.nil _) mixed [] 20 (by kernel_rfl))
    (.cons (inl_sound (.nil _) mixed [] 20 (by kernel_rfl)) (.cons (inl_sound (.nil _) mixed [] 20 (by kernel_rfl)) (.cons (inl_sound (.nil _) mixed [] 20 (by kernel_rfl)) (.nil _))))))
noncomputable def M2 : List (Nat × Sem1) := (16, inl Try.prog M1 [] 20 16) :: (18, inl Try.prog M1 [] 20 18) :: M1
theorem M2_ok : EnvOK Try.prog M2 := .cons (inl_sound M1_ok mixed [] 20 (by kernel_rfl)) (.cons (inl_sound M1_ok mixed [] 20 (by kernel_rfl)) M1_ok)
noncomputable def M3 : List (Nat × Sem1) := (10, inl Try.prog M2 [] 20 10) :: M2
theorem M3_ok : EnvOK Try.prog M3 := .cons (inl_sound M2_ok mixed [] 20 (by kernel_rfl)) M2_ok
noncomputable def M4 : List (Nat × Sem1) := (12, inl Try.prog M3 [] 20 12) :: M3
theorem M4_ok : EnvOK Try.prog M4 := .cons (inl_sound M3_ok mixed [] 20 (by kernel_rfl)) M3_ok
noncomputable def M5 : List (Nat × Sem1) := (9, inl Try.prog M4 [] 20 9) :: M4
theorem M5_ok : EnvOK Try.prog M5 := .cons (inl_sound M4_ok mixed [] 20 (by kernel_rfl)) M4_ok
end Go.Proofs.Ytgbgdihahmecoaa
