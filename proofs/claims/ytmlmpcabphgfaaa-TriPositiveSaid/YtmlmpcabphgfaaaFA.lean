/-
  Contracts by plain functions: fx.Abs
-/
import Derived.Test.YtmlmpcabphgfaaaW2
set_option maxRecDepth 100000
set_option maxHeartbeats 4000000
set_option linter.unusedVariables false
namespace Go.Proofs.Ytmlmpcabphgfaaa
open Go.Ab
def K_fx_Abs {ρ : Type}   (x0 : Int) (k : (Int) → Option ρ) : Option ρ :=
  bif decide (x0 ≥ 1152921504606846976) then k 1152921504606846976
  else bif decide (x0 ≤ -1152921504606846976) then k 1152921504606846976 else bif decide (x0 < 0) then k (IntKind.wrap IntKind.i64 (0 - x0)) else k x0
def f_fx_Abs (x0 : Int) : Option (Int) := K_fx_Abs   x0 some
section
open Go.Ab.Rdr
def QA_fx_Abs := ((pair (cons (ar (rc (cf (fi .i64 hole)))) nil) nil) : Rdr (List AV × List Blk) _)
end
def F_fx_Abs (f : (Int) → Option (Int)) : Sem1 := fun args h => match (QA_fx_Abs).rd (args, h) with
  | some b => .opt (f b.1.1) fun (d : Int) => .leaf (Res.mk (AV.r (RV.c (CV.f (FV.i IntKind.i64 d)))) [] [])
  | none => .fail
theorem d_fx_Abs   (x0 : Int) : den Try.prog (envOf []) ⟨[], [], [], [], none⟩ 1000 53 [.r (.c (.f (.i .i64 x0)))] [] =
    K_fx_Abs   x0 (fun (d : Int) => some (Res.mk (AV.r (RV.c (CV.f (FV.i IntKind.i64 d)))) [] [])) := by kernel_rfl
theorem m_fx_Abs {ρ σ : Type} (q : ρ → Option σ)    (x0 : Int) (k : (Int) → Option ρ) : (K_fx_Abs   x0 k).bind q = K_fx_Abs   x0 (fun d => (k d).bind q) := by
  simp only [K_fx_Abs, bnd_cond, bnd_bind, bnd_none, bnd_sum]
theorem qa_fx_Abs : ∀ b, (QA_fx_Abs).em b = ([.r (.c (.f (.i .i64 b.1.1)))], []) := fun b => by kernel_rfl
theorem e_fx_Abs {f : (Int) → Option (Int)} {args : List AV} {h : List Blk} {r : Res} (hr : (F_fx_Abs f args h).eval = some r) : ∃ x0, args = [.r (.c (.f (.i .i64 x0)))] ∧ h = [] ∧ (f x0).bind (fun (d : Int) => some (Res.mk (AV.r (RV.c (CV.f (FV.i IntKind.i64 d)))) [] [])) = some r := by
  unfold F_fx_Abs at hr
  split at hr
  · rename_i b hb
    have e := ((QA_fx_Abs).ok _ _ hb).trans (qa_fx_Abs b)
    rw [opt_eval2] at hr
    exact ⟨b.1.1, (Prod.mk.inj e).1, (Prod.mk.inj e).2, hr⟩
  · cases hr
theorem n_fx_Abs {σ : Type} (q : (Int) → Option σ) (x0 : Int) : (f_fx_Abs x0).bind q = K_fx_Abs   x0 q := by
  unfold f_fx_Abs
  exact m_fx_Abs q    x0 some
theorem s_fx_Abs : Sound Try.prog 53 (F_fx_Abs f_fx_Abs) :=
  (inl_sound (l := []) (.nil _) mixed [] [] 1000 (by kernel_rfl)).by (F := F_fx_Abs f_fx_Abs) fun args b r hr => by
  obtain ⟨x0, rfl, rfl, hr1⟩ := e_fx_Abs hr
  exact inl_eval ((d_fx_Abs   x0).trans ((n_fx_Abs (fun (d : Int) => some (Res.mk (AV.r (RV.c (CV.f (FV.i IntKind.i64 d)))) [] [])) x0).symm.trans hr1))

end Go.Proofs.Ytmlmpcabphgfaaa
