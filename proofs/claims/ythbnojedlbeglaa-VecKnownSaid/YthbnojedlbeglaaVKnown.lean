/-
  The examples of chapter 5 answer as they are told: the statement of astrolabelaw5.VecKnown; no condition.
-/
import Derived.Test.YthbnojedlbeglaaV2
import Derived.Test.YthbnojedlbeglaaAbLaw
namespace Go.Proofs.Ythbnojedlbeglaa
open Go.Ab
theorem vecKnown_plain : f_astrolabelaw5_VecKnown = some true := by kernel_rfl
theorem vecKnown_ev (f : Option Bool)  : F_astrolabelaw5_VecKnown f [] [] = .opt (f ) fun d => .leaf ⟨.r (.c (.f (.b d))), [], []⟩ := by kernel_rfl
theorem vecKnown_trues : Trues (F_astrolabelaw5_VecKnown f_astrolabelaw5_VecKnown) [] := fun ds h => by
  obtain rfl := fit_nil h
  refine ⟨[], (congrArg T.eval (vecKnown_ev f_astrolabelaw5_VecKnown )).trans ?_⟩
  rw [vecKnown_plain]
  rfl
set_option maxRecDepth 100000 in
theorem vecKnown_lifted (os : Os) (started : os.Started) (H : Type) (enc : TypeId × Value → H) :
    ReturnsInHanded {} Try.checked os 9 .any (Rows.vecKnownSpec.pre6 enc Try.prog Try.f9 Rows.vecKnownRow.domain false) (Rows.vecKnownSpec.post enc Try.prog Try.f9 false true false false) :=
  law_lift (C := Try.checked) (tb := Try.f9.resultTypes.getD 0 0) own started (by kernel_rfl) Try.func9 laid (by kernel_rfl) (by kernel_rfl) (by kernel_rfl) rfl
    (fun ds h => by
      have h : ds.length = 0 := h.trans (by kernel_rfl)
      match ds, h with
      | [], _ => rfl)
    (ChangeSpec.witness6 (enc := enc) (C := Try.checked) false ⟨#[], #[], []⟩ 8 (by kernel_rfl) (by kernel_rfl) (by kernel_rfl) (by kernel_rfl))
    (fun W base args ds ps _ hval ht hz _ _ => prm_calls (pr := []) s_astrolabelaw5_VecKnown (by kernel_rfl) (ts := Try.f9.params.toList) (by kernel_rfl) (by kernel_rfl) vecKnown_trues hval ht hz)
theorem vecKnown_over : Rows.vecKnownRow.holds Try.pinned (OpenSpec.ofChange Rows.vecKnownSpec) :=
  OpenClaim.holds_of_wide 9 Try.f9 rfl rfl rfl rfl rfl rfl rfl ⟨rfl, rfl, rfl, rfl, rfl⟩ rfl rfl rfl rfl rfl (by kernel_rfl) Try.func9 (by kernel_rfl)
    (of_decide_eq_true (by kernel_rfl)) (by unfold Func.isWrapper; first | (rw [if_pos (by decide +kernel)]; kernel_rfl) | (rw [if_neg (by decide +kernel)]; exact ⟨rfl, rfl⟩))
    (fun os started H enc _ => vecKnown_lifted os started H enc)
/-- the statement -/
theorem vecKnown_proved : Rows.VecKnownSaid := vecKnown_over
#print axioms vecKnown_proved
end Go.Proofs.Ythbnojedlbeglaa
