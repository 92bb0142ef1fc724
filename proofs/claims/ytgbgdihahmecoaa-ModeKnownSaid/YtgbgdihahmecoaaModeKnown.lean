/-
  The examples of chapter 25 answer as they are told: the statement of astrolabelaw25.ModeKnown; no condition.
-/
import Derived.Test.YtgbgdihahmecoaaModeC
namespace Go.Proofs.Ytgbgdihahmecoaa
open Go.Ab

theorem modeKnown_trues : Trues (inl Try.prog M5 [] 20 3) [] := fun fss h => by
  obtain rfl := fits_nil h
  exact trues_of (by kernel_rfl)
set_option maxRecDepth 100000 in
theorem modeKnown_lifted (os : Os) (started : os.Started) (H : Type) (enc : TypeId × Value → H) :
    ReturnsInHanded {} Try.checked os 3 .any (Rows.modeKnownSpec.pre6 enc Try.prog Try.f3 Rows.modeKnownRow.domain false) (Rows.modeKnownSpec.post enc Try.prog Try.f3 false true false false) :=
  law_lift (C := Try.checked) own started (by kernel_rfl) Try.func3 laid (by kernel_rfl) Try.underlying4 (by kernel_rfl) rfl
    (fun ds h => by
      have h : ds.length = 0 := h.trans (by kernel_rfl)
      match ds, h with
      | [], _ => rfl)
    (ChangeSpec.witness6 (enc := enc) (C := Try.checked) false ⟨#[], #[], []⟩ 8 (by kernel_rfl) (by kernel_rfl) (by kernel_rfl) (by kernel_rfl))
    (fun W base args ds ps hsz hval _ _ _ _ => flat_calls (ts := Try.f3.params.toList) (inl_sound M5_ok mixed [] 20 (by kernel_rfl)) (by kernel_rfl) modeKnown_trues hsz hval)
theorem modeKnown_over : Rows.modeKnownRow.holds Try.pinned (OpenSpec.ofChange Rows.modeKnownSpec) :=
  OpenClaim.holds_of_wide 3 Try.f3 rfl rfl rfl rfl rfl rfl rfl ⟨rfl, rfl, rfl, rfl, rfl⟩ rfl rfl rfl rfl rfl (by kernel_rfl) Try.func3 (by kernel_rfl)
    (of_decide_eq_true (by kernel_rfl)) (by unfold Func.isWrapper; first | (rw [if_pos (by decide +kernel)]; kernel_rfl) | (rw [if_neg (by decide +kernel)]; exact ⟨rfl, rfl⟩))
    (fun os started H enc _ => modeKnown_lifted os started H enc)
/-- the statement -/
theorem modeKnown_proved : Rows.ModeKnownSaid := modeKnown_over
#print axioms modeKnown_proved
end Go.Proofs.Ytgbgdihahmecoaa
