/-
  The examples of chapter 13 answer as they are told: the statement of astrolabelaw13.RingKnown; no condition.
-/
import Derived.Test.YthbnojedlbeglaaRG3
import Derived.Test.YthbnojedlbeglaaAbLaw
import Derived.Test.YthbnojedlbeglaaAbInv
set_option maxRecDepth 100000
set_option maxHeartbeats 4000000
set_option linter.unusedVariables false
set_option linter.unusedSimpArgs false
namespace Go.Proofs.Ythbnojedlbeglaa
open Go.Ab
theorem ringKnown_plain : f_astrolabelaw13_RingKnown = some true := by kernel_rfl
theorem ringKnown_ev (f : Option Bool)  : F_astrolabelaw13_RingKnown f [] [] = .opt (f ) fun d => .leaf ⟨.r (.c (.f (.b d))), [], []⟩ := by kernel_rfl
theorem ringKnown_trues : Trues (F_astrolabelaw13_RingKnown f_astrolabelaw13_RingKnown) [] := fun ds h => by
  obtain rfl := fit_nil h
  refine ⟨[], (congrArg T.eval (ringKnown_ev f_astrolabelaw13_RingKnown )).trans ?_⟩
  rw [ringKnown_plain]
  rfl
set_option maxRecDepth 100000 in
theorem ringKnown_lifted (os : Os) (started : os.Started) (H : Type) (enc : TypeId × Value → H) :
    ReturnsInHanded {} Try.checked os 3 .any (Rows.ringKnownSpec.pre6 enc Try.prog Try.f3 Rows.ringKnownRow.domain false) (Rows.ringKnownSpec.post enc Try.prog Try.f3 false true false false) :=
  law_lift (C := Try.checked) (tb := Try.f3.resultTypes.getD 0 0) own started (by kernel_rfl) Try.func3 laid (by kernel_rfl) (by kernel_rfl) (by kernel_rfl) rfl
    (fun ds h => by
      have h : ds.length = 0 := h.trans (by kernel_rfl)
      match ds, h with
      | [], _ => rfl)
    (ChangeSpec.witness6 (enc := enc) (C := Try.checked) false ⟨#[], #[], []⟩ 8 (by kernel_rfl) (by kernel_rfl) (by kernel_rfl) (by kernel_rfl))
    (fun W base args ds ps _ hval ht _ _ _ => prm_calls (pr := []) s_astrolabelaw13_RingKnown (by kernel_rfl) (ts := Try.f3.params.toList) (by kernel_rfl) ringKnown_trues hval ht)
theorem ringKnown_over : Rows.ringKnownRow.holds Try.pinned (OpenSpec.ofChange Rows.ringKnownSpec) :=
  OpenClaim.holds_of_wide 3 Try.f3 rfl rfl rfl rfl rfl rfl rfl ⟨rfl, rfl, rfl, rfl, rfl⟩ rfl rfl rfl rfl rfl (by kernel_rfl) Try.func3 (by kernel_rfl)
    (of_decide_eq_true (by kernel_rfl)) (by unfold Func.isWrapper; first | (rw [if_pos (by decide +kernel)]; kernel_rfl) | (rw [if_neg (by decide +kernel)]; exact ⟨rfl, rfl⟩))
    (fun os started H enc _ => ringKnown_lifted os started H enc)
/-- the statement -/
theorem ringKnown_proved : Rows.RingKnownSaid := ringKnown_over
#print axioms ringKnown_proved
end Go.Proofs.Ythbnojedlbeglaa
