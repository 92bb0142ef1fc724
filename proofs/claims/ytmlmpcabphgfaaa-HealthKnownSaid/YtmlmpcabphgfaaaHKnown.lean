/-
  The examples of chapter 24 answer as they are told: the statement of astrolabelaw24.HealthKnown; no condition.
-/
import Derived.Test.YtmlmpcabphgfaaaH3
namespace Go.Proofs.Ytmlmpcabphgfaaa
open Go.Ab

theorem healthKnown_plain : f_astrolabelaw24_HealthKnown = some true := by kernel_rfl
theorem healthKnown_trues : Trues (F_astrolabelaw24_HealthKnown f_astrolabelaw24_HealthKnown) [] := fun ds h => by
  match ds, h with
  | [], _ => exact ⟨[], by rw [healthKnown_plain]; rfl⟩
set_option maxRecDepth 100000 in
theorem healthKnown_lifted (os : Os) (started : os.Started) (H : Type) (enc : TypeId × Value → H) :
    ReturnsInHanded {} Try.checked os 3 .any (Rows.healthKnownSpec.pre6 enc Try.prog Try.f3 Rows.healthKnownRow.domain false) (Rows.healthKnownSpec.post enc Try.prog Try.f3 false true false false) :=
  law_lift (C := Try.checked) (tb := Try.f3.resultTypes.getD 0 0) own started (by kernel_rfl) Try.func3 laid (by kernel_rfl) (by kernel_rfl) (by kernel_rfl) rfl
    (fun ds h => by
      have h : ds.length = 0 := h.trans (by kernel_rfl)
      match ds, h with
      | [], _ => rfl)
    (ChangeSpec.witness6 (enc := enc) (C := Try.checked) false ⟨#[], #[], []⟩ 8 (by kernel_rfl) (by kernel_rfl) (by kernel_rfl) (by kernel_rfl))
    (fun W base args ds ps _ hval ht hz _ _ => prm_calls (pr := []) s_astrolabelaw24_HealthKnown (by kernel_rfl) (ts := Try.f3.params.toList) (by kernel_rfl) (by kernel_rfl) healthKnown_trues hval ht hz)
theorem healthKnown_over : Rows.healthKnownRow.holds Try.pinned (OpenSpec.ofChange Rows.healthKnownSpec) :=
  OpenClaim.holds_of_wide 3 Try.f3 rfl rfl rfl rfl rfl rfl rfl ⟨rfl, rfl, rfl, rfl, rfl⟩ rfl rfl rfl rfl rfl (by kernel_rfl) Try.func3 (by kernel_rfl)
    (of_decide_eq_true (by kernel_rfl)) (by unfold Func.isWrapper; first | (rw [if_pos (by decide +kernel)]; kernel_rfl) | (rw [if_neg (by decide +kernel)]; exact ⟨rfl, rfl⟩))
    (fun os started H enc _ => healthKnown_lifted os started H enc)
/-- the statement -/
theorem healthKnown_proved : Rows.HealthKnownSaid := healthKnown_over
#print axioms healthKnown_proved
end Go.Proofs.Ytmlmpcabphgfaaa
