/-
  The examples of chapter 19 answer as they are told: the statement of astrolabelaw19.GnssKnown; no condition.
-/
import Derived.Test.YtdpenjncfmkbgaaGN3
import Derived.Test.YtdpenjncfmkbgaaAbLaw
import Derived.Test.YtdpenjncfmkbgaaAbInv
set_option maxRecDepth 100000
set_option maxHeartbeats 4000000
set_option linter.unusedVariables false
set_option linter.unusedSimpArgs false
namespace Go.Proofs.Ytdpenjncfmkbgaa
open Go.Ab
theorem gnssKnown_plain : f_astrolabelaw19_GnssKnown = some true := by kernel_rfl
theorem gnssKnown_ev (f : Option Bool)  : F_astrolabelaw19_GnssKnown f [] [] = .opt (f ) fun d => .leaf ⟨.r (.c (.f (.b d))), [], []⟩ := by kernel_rfl
theorem gnssKnown_trues : Trues (F_astrolabelaw19_GnssKnown f_astrolabelaw19_GnssKnown) [] := fun ds h => by
  obtain rfl := fit_nil h
  refine ⟨[], (congrArg T.eval (gnssKnown_ev f_astrolabelaw19_GnssKnown )).trans ?_⟩
  rw [gnssKnown_plain]
  rfl
set_option maxRecDepth 100000 in
theorem gnssKnown_lifted (os : Os) (started : os.Started) (H : Type) (enc : TypeId × Value → H) :
    ReturnsInHanded {} Try.checked os 3 .any (Rows.gnssKnownSpec.pre6 enc Try.prog Try.f3 Rows.gnssKnownRow.domain false) (Rows.gnssKnownSpec.post enc Try.prog Try.f3 false true false false) :=
  law_lift (C := Try.checked) (tb := Try.f3.resultTypes.getD 0 0) own started (by kernel_rfl) Try.func3 laid (by kernel_rfl) (by kernel_rfl) (by kernel_rfl) rfl
    (fun ds h => by
      have h : ds.length = 0 := h.trans (by kernel_rfl)
      match ds, h with
      | [], _ => rfl)
    (ChangeSpec.witness6 (enc := enc) (C := Try.checked) false ⟨#[], #[], []⟩ 8 (by kernel_rfl) (by kernel_rfl) (by kernel_rfl) (by kernel_rfl))
    (fun W base args ds ps _ hval ht _ _ _ => prm_calls (pr := []) s_astrolabelaw19_GnssKnown (by kernel_rfl) (ts := Try.f3.params.toList) (by kernel_rfl) gnssKnown_trues hval ht)
theorem gnssKnown_over : Rows.gnssKnownRow.holds Try.pinned (OpenSpec.ofChange Rows.gnssKnownSpec) :=
  OpenClaim.holds_of_wide 3 Try.f3 rfl rfl rfl rfl rfl rfl rfl ⟨rfl, rfl, rfl, rfl, rfl⟩ rfl rfl rfl rfl rfl (by kernel_rfl) Try.func3 (by kernel_rfl)
    (of_decide_eq_true (by kernel_rfl)) (by unfold Func.isWrapper; first | (rw [if_pos (by decide +kernel)]; kernel_rfl) | (rw [if_neg (by decide +kernel)]; exact ⟨rfl, rfl⟩))
    (fun os started H enc _ => gnssKnown_lifted os started H enc)
/-- the statement -/
theorem gnssKnown_proved : Rows.GnssKnownSaid := gnssKnown_over
#print axioms gnssKnown_proved
end Go.Proofs.Ytdpenjncfmkbgaa
