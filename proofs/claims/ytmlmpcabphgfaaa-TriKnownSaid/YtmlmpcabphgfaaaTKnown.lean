/-
  The examples of chapter 9 answer as they are told: the statement of astrolabelaw9.TriKnown; no condition.
-/
import Derived.Test.YtmlmpcabphgfaaaT2
import Derived.Test.YtmlmpcabphgfaaaAbLaw
namespace Go.Proofs.Ytmlmpcabphgfaaa
open Go.Ab
theorem triKnown_plain : f_astrolabelaw9_TriKnown = some true := by kernel_rfl
theorem triKnown_ev (f : Option Bool)  : F_astrolabelaw9_TriKnown f [] [] = .opt (f ) fun d => .leaf ⟨.r (.c (.f (.b d))), [], []⟩ := by kernel_rfl
theorem triKnown_trues : Trues (F_astrolabelaw9_TriKnown f_astrolabelaw9_TriKnown) [] := fun ds h => by
  obtain rfl := fit_nil h
  refine ⟨[], (congrArg T.eval (triKnown_ev f_astrolabelaw9_TriKnown )).trans ?_⟩
  rw [triKnown_plain]
  rfl
set_option maxRecDepth 100000 in
theorem triKnown_lifted (os : Os) (started : os.Started) (H : Type) (enc : TypeId × Value → H) :
    ReturnsInHanded {} Try.checked os 11 .any (Rows.triKnownSpec.pre6 enc Try.prog Try.f11 Rows.triKnownRow.domain false) (Rows.triKnownSpec.post enc Try.prog Try.f11 false true false false) :=
  law_lift (C := Try.checked) (tb := Try.f11.resultTypes.getD 0 0) own started (by kernel_rfl) Try.func11 laid (by kernel_rfl) (by kernel_rfl) (by kernel_rfl) rfl
    (fun ds h => by
      have h : ds.length = 0 := h.trans (by kernel_rfl)
      match ds, h with
      | [], _ => rfl)
    (ChangeSpec.witness6 (enc := enc) (C := Try.checked) false ⟨#[], #[], []⟩ 8 (by kernel_rfl) (by kernel_rfl) (by kernel_rfl) (by kernel_rfl))
    (fun W base args ds ps _ hval ht hz _ _ => prm_calls (pr := []) s_astrolabelaw9_TriKnown (by kernel_rfl) (ts := Try.f11.params.toList) (by kernel_rfl) (by kernel_rfl) triKnown_trues hval ht hz)
theorem triKnown_over : Rows.triKnownRow.holds Try.pinned (OpenSpec.ofChange Rows.triKnownSpec) :=
  OpenClaim.holds_of_wide 11 Try.f11 rfl rfl rfl rfl rfl rfl rfl ⟨rfl, rfl, rfl, rfl, rfl⟩ rfl rfl rfl rfl rfl (by kernel_rfl) Try.func11 (by kernel_rfl)
    (of_decide_eq_true (by kernel_rfl)) (by unfold Func.isWrapper; first | (rw [if_pos (by decide +kernel)]; kernel_rfl) | (rw [if_neg (by decide +kernel)]; exact ⟨rfl, rfl⟩))
    (fun os started H enc _ => triKnown_lifted os started H enc)
/-- the statement -/
theorem triKnown_proved : Rows.TriKnownSaid := triKnown_over
#print axioms triKnown_proved
end Go.Proofs.Ytmlmpcabphgfaaa
