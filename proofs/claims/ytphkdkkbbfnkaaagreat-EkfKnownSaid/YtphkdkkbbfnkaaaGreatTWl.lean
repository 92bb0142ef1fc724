/-
  Plain helps: a filter at rest, block.Reset said in short
-/
import Derived.Test.YtphkdkkbbfnkaaaGreatTDh
import Derived.Test.YtphkdkkbbfnkaaaGreatL8
set_option maxRecDepth 100000
set_option maxHeartbeats 4000000
set_option linter.unusedVariables false
set_option linter.unusedSimpArgs false
namespace Go.Proofs.YtphkdkkbbfnkaaaGreat
open Go.Ab Go.Ab.Pg
noncomputable section
def allN : Nat → (Nat → Bool) → Bool
  | 0, _ => true
  | n + 1, f => allN n f && f n
theorem allN_at {f : Nat → Bool} : ∀ n, allN n f = true → ∀ i, i < n → f i = true
  | 0, _, i, hi => by omega
  | n + 1, h, i, hi => by
    have h : (allN n f && f n) = true := h
    rw [Bool.and_eq_true] at h
    by_cases e : i = n
    · rw [e]; exact h.2
    · exact allN_at n h.1 i (by omega)
def isV (d : Int) : Bool := decide (d = 17592186044416) || decide (d = 68719476736) || decide (d = 67108864) || decide (d = 4294967296) || decide (d = 17179869184)
theorem isV_ok {d : Int} (h : isV d = true) : okV d := by
  unfold isV at h
  simp only [Bool.or_eq_true, decide_eq_true_eq] at h
  unfold okV
  omega
def isDg (U D : Nat → Int) (a : Int) (n : Nat) (V : Nat → Int) : Bool :=
  Nat.beq n 4 && decide (a = 0) && allN 276 (fun p => decide (U p = 0)) && allN 24 (fun i => isV (D i)) && allN 4 (fun i => isV (V i))
def rsQ : G_AZ := fun U D a n b V w => bif isDg U D a n V then some ((fun _ => 0, fun i => if i < 24 then (if i < 4 then V i else D i) else 0), b) else f_AZ U D a n b V w
theorem rsQ_eq : f_AZ = rsQ := by
  funext U D a n b V w
  unfold rsQ
  cases h : isDg U D a n V
  · rfl
  · unfold isDg at h
    simp only [Bool.and_eq_true, decide_eq_true_eq] at h
    obtain ⟨⟨⟨⟨h0, h1⟩, h2⟩, h3⟩, h4⟩ := h
    have h0 := Nat.eq_of_beq_eq_true h0
    subst h0
    subst h1
    refine reset_diag U D V b w (fun p hp => of_decide_eq_true (allN_at _ h2 p hp)) (fun i hi => isV_ok (allN_at _ h3 i hi)) (fun i hi => isV_ok (allN_at _ h4 i hi))
def v_level (g : G_AZ) (x : Q_AW.B) : Option D_AW := (B_AW f_BU f_Br f_AF f_AK f_Au f_AT g f_Cc L_AW_0 x).val
def v_step (g : G_AZ) (x : Q_Y.B) : Option D_Y := (B_Y (v_level g) L_Y_3 x).val
def v_Imu_0 (g : G_AZ) : QL_AJ_0.B → Option X_AJ_0 := loopP (S_AJ_0 (v_step g)) 2000
def v_Imu_1 (g : G_AZ) (d : QL_AJ_1.B) : Option X_AJ_1 := (S_AJ_1 (v_Imu_0 g) d).val
def v_Imu (g : G_AZ) (x : Q_AJ.B) : Option D_AJ := (B_AJ f_CD f_BO (v_Imu_1 g) x).val
def v_rested_0 (g : G_AZ) : QL_AQ_0.B → Option X_AQ_0 := loopP (S_AQ_0 f_Ax (v_Imu g)) 2000
def v_rested (g : G_AZ) (x : Q_AQ.B) : Option D_AQ := (B_AQ f_BG (v_rested_0 g) x).val
theorem v_rested_eq : f_AQ = v_rested rsQ := by
  rw [← rsQ_eq]; rfl
end
end Go.Proofs.YtphkdkkbbfnkaaaGreat
