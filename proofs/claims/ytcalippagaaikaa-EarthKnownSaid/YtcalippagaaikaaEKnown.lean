/-
  The examples of chapter 8 answer as they are told: the statement of astrolabelaw8.EarthKnown; no condition.
-/
import Derived.Test.YtcalippagaaikaaE2
import Derived.Test.YtcalippagaaikaaAbLaw
namespace Go.Proofs.Ytcalippagaaikaa
open Go.Ab
theorem earthKnown_plain : f_astrolabelaw8_EarthKnown = some true := by kernel_rfl
theorem earthKnown_ev (f : Option Bool)  : F_astrolabelaw8_EarthKnown f [] [] = .opt (f ) fun d => .leaf ⟨.r (.c (.f (.b d))), [], []⟩ := by kernel_rfl
theorem earthKnown_trues : Trues (F_astrolabelaw8_EarthKnown f_astrolabelaw8_EarthKnown) [] := fun ds h => by
  obtain rfl := fit_nil h
  refine ⟨[], (congrArg T.eval (earthKnown_ev f_astrolabelaw8_EarthKnown )).trans ?_⟩
  rw [earthKnown_plain]
  rfl
set_option maxRecDepth 100000 in
theorem earthKnown_lifted (os : Os) (started : os.Started) (H : Type) (enc : TypeId × Value → H) :
    ReturnsInHanded {} Try.checked os 9 .any (Rows.earthKnownSpec.pre6 enc Try.prog Try.f9 Rows.earthKnownRow.domain false) (Rows.earthKnownSpec.post enc Try.prog Try.f9 false true false false) :=
  law_lift (C := Try.checked) (tb := Try.f9.resultTypes.getD 0 0) own started (by kernel_rfl) Try.func9 laid (by kernel_rfl) (by kernel_rfl) (by kernel_rfl) rfl
    (fun ds h => by
      have h : ds.length = 0 := h.trans (by kernel_rfl)
      match ds, h with
      | [], _ => rfl)
    (ChangeSpec.witness6 (enc := enc) (C := Try.checked) false ⟨#[], #[], []⟩ 8 (by kernel_rfl) (by kernel_rfl) (by kernel_rfl) (by kernel_rfl))
    (fun W base args ds ps _ hval ht hz _ _ => prm_calls (pr := []) s_astrolabelaw8_EarthKnown (by kernel_rfl) (ts := Try.f9.params.toList) (by kernel_rfl) (by kernel_rfl) earthKnown_trues hval ht hz)
theorem earthKnown_over : Rows.earthKnownRow.holds Try.pinned (OpenSpec.ofChange Rows.earthKnownSpec) :=
  OpenClaim.holds_of_wide 9 Try.f9 rfl rfl rfl rfl rfl rfl rfl ⟨rfl, rfl, rfl, rfl, rfl⟩ rfl rfl rfl rfl rfl (by kernel_rfl) Try.func9 (by kernel_rfl)
    (of_decide_eq_true (by kernel_rfl)) (by unfold Func.isWrapper; first | (rw [if_pos (by decide +kernel)]; kernel_rfl) | (rw [if_neg (by decide +kernel)]; exact ⟨rfl, rfl⟩))
    (fun os started H enc _ => earthKnown_lifted os started H enc)
/-- the statement -/
theorem earthKnown_proved : Rows.EarthKnownSaid := earthKnown_over
#print axioms earthKnown_proved
end Go.Proofs.Ytcalippagaaikaa
