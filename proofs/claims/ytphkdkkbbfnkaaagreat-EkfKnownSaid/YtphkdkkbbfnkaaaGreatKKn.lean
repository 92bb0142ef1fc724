/-
  The examples of chapter 28 answer as they are told: the statement of astrolabelaw28.EkfKnown; no condition.
-/
import Derived.Test.YtphkdkkbbfnkaaaGreatTWl
import Derived.Test.YtphkdkkbbfnkaaaGreatLK
import Derived.Test.YtphkdkkbbfnkaaaGreatAbLaw
import Derived.Test.YtphkdkkbbfnkaaaGreatAbInv
set_option maxRecDepth 100000
set_option maxHeartbeats 4000000
set_option linter.unusedVariables false
set_option linter.unusedSimpArgs false
namespace Go.Proofs.YtphkdkkbbfnkaaaGreat
open Go.Ab Go.Ab.Pg
theorem awake_plain : f_AB = some true := by
  unfold f_AB
  rw [v_rested_eq]
  kernel_rfl
theorem ekfKnown_plain : f_AD = some true := by
  unfold f_AD
  rw [awake_plain]
  kernel_rfl
theorem ekfKnown_trues : Trues (FC Q_AD R_AD (fun _ => f_AD)) [] := fun ds h => by
  obtain rfl := fit_nil h
  refine ⟨[], ?_⟩
  rw [ekfKnown_plain]
  rfl
theorem ekfKnown_snd [Amb] : Sound Tryz.prog 3 (FC Q_AD R_AD (fun _ => f_AD)) := s_AD
set_option maxRecDepth 100000 in
theorem ekfKnown_lifted (os : Os) (started : os.Started) (H : Type) (enc : TypeId × Value → H) :
    ReturnsInHanded {} Tryz.checked os 3 .any (Rows.ekfKnownSpec.pre6 enc Tryz.prog Tryz.f3 Rows.ekfKnownRow.domain false) (Rows.ekfKnownSpec.post enc Tryz.prog Tryz.f3 false true false false) :=
  law_lift (C := Tryz.checked) (tb := Tryz.f3.resultTypes.getD 0 0) own started (by kernel_rfl) Tryz.func3 laid (by kernel_rfl) (by kernel_rfl) (by kernel_rfl) rfl
    (fun ds h => by
      have h : ds.length = 0 := h.trans (by kernel_rfl)
      match ds, h with
      | [], _ => rfl)
    (ChangeSpec.witness6 (enc := enc) (C := Tryz.checked) false ⟨#[], #[], []⟩ 8 (by kernel_rfl) (by kernel_rfl) (by kernel_rfl) (by kernel_rfl))
    (fun W base args ds ps _ hval ht _ _ _ => prm_calls (pr := []) ekfKnown_snd (by kernel_rfl) (ts := Tryz.f3.params.toList) (by kernel_rfl) ekfKnown_trues hval ht)
theorem ekfKnown_over : Rows.ekfKnownRow.holds Tryz.pinned (OpenSpec.ofChange Rows.ekfKnownSpec) :=
  OpenClaim.holds_of_wide 3 Tryz.f3 rfl rfl rfl rfl rfl rfl rfl ⟨rfl, rfl, rfl, rfl, rfl⟩ rfl rfl rfl rfl rfl (by kernel_rfl) Tryz.func3 (by kernel_rfl)
    (of_decide_eq_true (by kernel_rfl)) (by unfold Func.isWrapper; first | (rw [if_pos (by decide +kernel)]; kernel_rfl) | (rw [if_neg (by decide +kernel)]; exact ⟨rfl, rfl⟩))
    (fun os started H enc _ => ekfKnown_lifted os started H enc)
theorem ekfKnown_proved : Rows.EkfKnownSaid := ekfKnown_over
#print axioms ekfKnown_proved
end Go.Proofs.YtphkdkkbbfnkaaaGreat
