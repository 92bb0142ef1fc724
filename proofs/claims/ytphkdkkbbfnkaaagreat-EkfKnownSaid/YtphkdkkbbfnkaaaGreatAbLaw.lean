/-
  The abstract machine and the model: what a law's parameters are, one by one.
-/
import Derived.Test.YtphkdkkbbfnkaaaGreatAbZ
namespace Go.Ab
theorem fit_flat {a : Bool} {pt : List PT} {ps : List Prm} {ds : List Dat} (h : FitD (.flat a pt :: ps) ds) : ∃ l ds', ds = .flat l :: ds' ∧ All2 Fit1 pt l ∧ FitD ps ds' := by
  match ds, h with
  | .flat l :: ds', h => exact ⟨l, ds', rfl, h.1, h.2⟩
theorem fit_sl {ks : List K} {ps : List Prm} {ds : List Dat} (h : FitD (.sl ks :: ps) ds) : ∃ n cols ds', ds = .sl n cols :: ds' ∧ n ≤ maxLen ∧ All2 (fun k c => K.col k n c) ks cols ∧ FitD ps ds' := by
  match ds, h with
  | .sl n cols :: ds', h => exact ⟨n, cols, ds', rfl, h.1.1, h.1.2, h.2⟩
theorem fit_nil {ds : List Dat} (h : FitD [] ds) : ds = [] := by cases ds <;> first | rfl | cases h
theorem f1_nil {l : List DC} (h : All2 Fit1 [] l) : l = [] := by cases l <;> first | rfl | cases h
theorem f1_b {pt : List PT} {l : List DC} (h : All2 Fit1 (.c .b :: pt) l) : ∃ x l', l = .c (.b x) :: l' ∧ All2 Fit1 pt l' := by
  match l, h with
  | .c (.b x) :: l', h => exact ⟨x, l', rfl, h.2⟩
theorem f1_s {pt : List PT} {l : List DC} (h : All2 Fit1 (.c .s :: pt) l) : ∃ x l', l = .c (.s x) :: l' ∧ All2 Fit1 pt l' := by
  match l, h with
  | .c (.s x) :: l', h => exact ⟨x, l', rfl, h.2⟩
theorem f1_i {k : IntKind} {pt : List PT} {l : List DC} (h : All2 Fit1 (.c (.i k) :: pt) l) : ∃ x l', l = .c (.i k x) :: l' ∧ (k.min ≤ x ∧ x ≤ k.max) ∧ All2 Fit1 pt l' := by
  match l, h with
  | .c (.i k' x) :: l', h =>
    obtain ⟨⟨rfl, h1⟩, h2⟩ := h
    exact ⟨x, l', rfl, h1, h2⟩
theorem f1_a {n : Nat} {ks : List K} {pt : List PT} {l : List DC} (h : All2 Fit1 (.a n ks :: pt) l) : ∃ cols l', l = .a cols :: l' ∧ All2 (fun k c => K.col k n c) ks cols ∧ All2 Fit1 pt l' := by
  match l, h with
  | .a cols :: l', h => exact ⟨cols, l', rfl, h.1, h.2⟩
theorem col_nil {n : Nat} {l : List Col} (h : All2 (fun k c => K.col k n c) [] l) : l = [] := by cases l <;> first | rfl | cases h
theorem col_b {n : Nat} {ks : List K} {l : List Col} (h : All2 (fun k c => K.col k n c) (.b :: ks) l) : ∃ g l', l = .b g :: l' ∧ All2 (fun k c => K.col k n c) ks l' := by
  match l, h with
  | .b g :: l', h => exact ⟨g, l', rfl, h.2⟩
theorem col_s {n : Nat} {ks : List K} {l : List Col} (h : All2 (fun k c => K.col k n c) (.s :: ks) l) : ∃ g l', l = .s g :: l' ∧ All2 (fun k c => K.col k n c) ks l' := by
  match l, h with
  | .s g :: l', h => exact ⟨g, l', rfl, h.2⟩
theorem col_i {n : Nat} {k : IntKind} {ks : List K} {l : List Col} (h : All2 (fun k c => K.col k n c) (.i k :: ks) l) : ∃ g l', l = .i k g :: l' ∧ (∀ j, j < n → k.min ≤ g j ∧ g j ≤ k.max) ∧ All2 (fun k c => K.col k n c) ks l' := by
  match l, h with
  | .i k' g :: l', h =>
    obtain ⟨⟨rfl, h1⟩, h2⟩ := h
    exact ⟨g, l', rfl, h1, h2⟩
theorem col_u {n : Nat} {ks : List K} {l : List Col} (h : All2 (fun k c => K.col k n c) (.u :: ks) l) : ∃ l', l = .u :: l' ∧ All2 (fun k c => K.col k n c) ks l' := by
  match l, h with
  | .u :: l', h => exact ⟨l', rfl, h.2⟩
theorem col_q {n : Nat} {ks : List K} {l : List Col} (h : All2 (fun k c => K.col k n c) (.q :: ks) l) : ∃ g e l', l = .q g e :: l' ∧ (∀ j, j < n → g j ≤ maxLen) ∧ All2 (fun k c => K.col k n c) ks l' := by
  match l, h with
  | .q g e :: l', h => exact ⟨g, e, l', rfl, h.1, h.2⟩
theorem nbeq_self (n : Nat) : Nat.beq n n = true := Nat.beq_refl n
end Go.Ab
