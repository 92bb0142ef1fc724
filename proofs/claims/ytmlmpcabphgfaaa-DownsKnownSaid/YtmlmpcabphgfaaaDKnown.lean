/-
  The examples of chapter 14 answer as they are told: the statement of astrolabelaw14.DownsKnown; no condition.
-/
import Derived.Test.YtmlmpcabphgfaaaD2
import Derived.Test.YtmlmpcabphgfaaaAbLaw
namespace Go.Proofs.Ytmlmpcabphgfaaa
open Go.Ab
theorem downsKnown_plain : f_astrolabelaw14_DownsKnown = some true := by kernel_rfl
theorem downsKnown_ev (f : Option Bool)  : F_astrolabelaw14_DownsKnown f [] [] = .opt (f ) fun d => .leaf ⟨.r (.c (.f (.b d))), [], []⟩ := by kernel_rfl
theorem downsKnown_trues : Trues (F_astrolabelaw14_DownsKnown f_astrolabelaw14_DownsKnown) [] := fun ds h => by
  obtain rfl := fit_nil h
  refine ⟨[], (congrArg T.eval (downsKnown_ev f_astrolabelaw14_DownsKnown )).trans ?_⟩
  rw [downsKnown_plain]
  rfl
set_option maxRecDepth 100000 in
theorem downsKnown_lifted (os : Os) (started : os.Started) (H : Type) (enc : TypeId × Value → H) :
    ReturnsInHanded {} Try.checked os 7 .any (Rows.downsKnownSpec.pre6 enc Try.prog Try.f7 Rows.downsKnownRow.domain false) (Rows.downsKnownSpec.post enc Try.prog Try.f7 false true false false) :=
  law_lift (C := Try.checked) (tb := Try.f7.resultTypes.getD 0 0) own started (by kernel_rfl) Try.func7 laid (by kernel_rfl) (by kernel_rfl) (by kernel_rfl) rfl
    (fun ds h => by
      have h : ds.length = 0 := h.trans (by kernel_rfl)
      match ds, h with
      | [], _ => rfl)
    (ChangeSpec.witness6 (enc := enc) (C := Try.checked) false ⟨#[], #[], []⟩ 8 (by kernel_rfl) (by kernel_rfl) (by kernel_rfl) (by kernel_rfl))
    (fun W base args ds ps _ hval ht hz _ _ => prm_calls (pr := []) s_astrolabelaw14_DownsKnown (by kernel_rfl) (ts := Try.f7.params.toList) (by kernel_rfl) (by kernel_rfl) downsKnown_trues hval ht hz)
theorem downsKnown_over : Rows.downsKnownRow.holds Try.pinned (OpenSpec.ofChange Rows.downsKnownSpec) :=
  OpenClaim.holds_of_wide 7 Try.f7 rfl rfl rfl rfl rfl rfl rfl ⟨rfl, rfl, rfl, rfl, rfl⟩ rfl rfl rfl rfl rfl (by kernel_rfl) Try.func7 (by kernel_rfl)
    (of_decide_eq_true (by kernel_rfl)) (by unfold Func.isWrapper; first | (rw [if_pos (by decide +kernel)]; kernel_rfl) | (rw [if_neg (by decide +kernel)]; exact ⟨rfl, rfl⟩))
    (fun os started H enc _ => downsKnown_lifted os started H enc)
/-- the statement -/
theorem downsKnown_proved : Rows.DownsKnownSaid := downsKnown_over
#print axioms downsKnown_proved
end Go.Proofs.Ytmlmpcabphgfaaa
