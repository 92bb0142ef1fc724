/-
  The abstract machine and the model: what a law's parameters are, one by one.
-/
import Derived.Test.YtcalippagaaikaaAbZ
namespace Go.Ab
theorem fit_flat {a : Bool} {pt : List PT} {ps : List Prm} {ds : List Dat} (h : FitD (.flat a pt :: ps) ds) : ∃ l ds', ds = .flat l :: ds' ∧ All2 Fit1 pt l ∧ FitD ps ds' := by
  match ds, h with
  | .flat l :: ds', h => exact ⟨l, ds', rfl, h.1, h.2⟩
theorem fit_nil {ds : List Dat} (h : FitD [] ds) : ds = [] := by cases ds <;> first | rfl | cases h
theorem f1_nil {l : List DC} (h : All2 Fit1 [] l) : l = [] := by cases l <;> first | rfl | cases h
theorem f1_i {k : IntKind} {pt : List PT} {l : List DC} (h : All2 Fit1 (.c (.i k) :: pt) l) : ∃ x l', l = .c (.i k x) :: l' ∧ (k.min ≤ x ∧ x ≤ k.max) ∧ All2 Fit1 pt l' := by
  match l, h with
  | .c (.i k' x) :: l', h =>
    obtain ⟨⟨rfl, h1⟩, h2⟩ := h
    exact ⟨x, l', rfl, h1, h2⟩
end Go.Ab
