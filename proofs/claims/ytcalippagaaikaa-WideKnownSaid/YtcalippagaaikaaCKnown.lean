/-
  The examples of chapter 1 answer as they are told: the statement of astrolabelaw1.WideKnown; no condition.
-/
import Derived.Test.YtcalippagaaikaaC3
import Derived.Test.YtcalippagaaikaaAbLaw
namespace Go.Proofs.Ytcalippagaaikaa
open Go.Ab
theorem wideKnown_plain : f_astrolabelaw1_WideKnown = some true := by kernel_rfl
theorem wideKnown_ev (f : Option Bool)  : F_astrolabelaw1_WideKnown f [] [] = .opt (f ) fun d => .leaf ⟨.r (.c (.f (.b d))), [], []⟩ := by kernel_rfl
theorem wideKnown_trues : Trues (F_astrolabelaw1_WideKnown f_astrolabelaw1_WideKnown) [] := fun ds h => by
  obtain rfl := fit_nil h
  refine ⟨[], (congrArg T.eval (wideKnown_ev f_astrolabelaw1_WideKnown )).trans ?_⟩
  rw [wideKnown_plain]
  rfl
set_option maxRecDepth 100000 in
theorem wideKnown_lifted (os : Os) (started : os.Started) (H : Type) (enc : TypeId × Value → H) :
    ReturnsInHanded {} Try.checked os 3 .any (Rows.wideKnownSpec.pre6 enc Try.prog Try.f3 Rows.wideKnownRow.domain false) (Rows.wideKnownSpec.post enc Try.prog Try.f3 false true false false) :=
  law_lift (C := Try.checked) (tb := Try.f3.resultTypes.getD 0 0) own started (by kernel_rfl) Try.func3 laid (by kernel_rfl) (by kernel_rfl) (by kernel_rfl) rfl
    (fun ds h => by
      have h : ds.length = 0 := h.trans (by kernel_rfl)
      match ds, h with
      | [], _ => rfl)
    (ChangeSpec.witness6 (enc := enc) (C := Try.checked) false ⟨#[], #[], []⟩ 8 (by kernel_rfl) (by kernel_rfl) (by kernel_rfl) (by kernel_rfl))
    (fun W base args ds ps _ hval ht hz _ _ => prm_calls (pr := []) s_astrolabelaw1_WideKnown (by kernel_rfl) (ts := Try.f3.params.toList) (by kernel_rfl) (by kernel_rfl) wideKnown_trues hval ht hz)
theorem wideKnown_over : Rows.wideKnownRow.holds Try.pinned (OpenSpec.ofChange Rows.wideKnownSpec) :=
  OpenClaim.holds_of_wide 3 Try.f3 rfl rfl rfl rfl rfl rfl rfl ⟨rfl, rfl, rfl, rfl, rfl⟩ rfl rfl rfl rfl rfl (by kernel_rfl) Try.func3 (by kernel_rfl)
    (of_decide_eq_true (by kernel_rfl)) (by unfold Func.isWrapper; first | (rw [if_pos (by decide +kernel)]; kernel_rfl) | (rw [if_neg (by decide +kernel)]; exact ⟨rfl, rfl⟩))
    (fun os started H enc _ => wideKnown_lifted os started H enc)
/-- the statement -/
theorem wideKnown_proved : Rows.WideKnownSaid := wideKnown_over
#print axioms wideKnown_proved
end Go.Proofs.Ytcalippagaaikaa
