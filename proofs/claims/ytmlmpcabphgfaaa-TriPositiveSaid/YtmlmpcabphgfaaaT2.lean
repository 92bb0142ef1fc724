/-
  Contracts by plain functions: astrolabelaw9.awake, astrolabelaw9.TriKnown
-/
import Derived.Test.YtmlmpcabphgfaaaT1
set_option maxRecDepth 100000
set_option maxHeartbeats 4000000
set_option linter.unusedVariables false
namespace Go.Proofs.Ytmlmpcabphgfaaa
open Go.Ab
def K_astrolabelaw9_awake {ρ : Type} (g_tri_New : Nat → Bool → (Nat → Int) → Bool → Option ((Nat → Int) × (Nat → Int) × Bool)) (g_tri_Set : (Nat → Int) → (Nat → Int) → Int → Int → Int → Option ((Nat → Int) × (Nat → Int))) (g_tri_Diag : (Nat → Int) → (Nat → Int) → Bool → Option ((Nat → Int) × Bool)) (g_tri_Good : (Nat → Int) → (Nat → Int) → Option Bool) (g_tri_At : (Nat → Int) → (Nat → Int) → Int → Int → Bool → Option (Int × Bool)) (g_tri_U : (Nat → Int) → (Nat → Int) → Int → Int → Option Int) (g_tri_Condition : (Nat → Int) → (Nat → Int) → Bool → Option ((Nat → Int) × (Nat → Int) × Bool)) (g_tri_Most : (Nat → Int) → (Nat → Int) → Option Int)   (k : (Bool) → Option ρ) : Option ρ :=
  Option.bind (g_tri_New 1 false (fun (j : Nat) => bif Nat.beq j 0 then 17592186044416 else 17592186044416) true) fun (d : (Nat → Int) × (Nat → Int) × Bool) =>
    Option.bind (g_tri_Set d.1 d.snd.1 0 1 1073741824) fun (d_1 : (Nat → Int) × (Nat → Int)) =>
      Option.bind (g_tri_Diag d_1.1 d_1.2 d.snd.snd) fun (d_2 : (Nat → Int) × Bool) =>
        Option.bind (g_tri_Good d.1 d.snd.1) fun (d_3 : Bool) =>
          bif d_3 then
            Option.bind (g_tri_At d.1 d.snd.1 0 0 d_2.snd) fun (d_4 : Int × Bool) =>
              bif d_4.fst == 17592186044416 then
                Option.bind (g_tri_At d.1 d.snd.1 1 1 d_4.snd) fun (d_5 : Int × Bool) =>
                  bif d_5.fst == 1 then
                    Option.bind (g_tri_At d.1 d.snd.1 0 1 d_5.snd) fun (d_6 : Int × Bool) =>
                      bif d_6.fst == 0 then
                        Option.bind (g_tri_U d_1.1 d_1.2 0 1) fun (d_7 : Int) =>
                          bif d_7 == 1073741824 then
                            Option.bind (g_tri_U d_1.1 d_1.2 3 3) fun (d_8 : Int) =>
                              bif d_8 == 1073741824 then
                                bif d_2.fst 0 == 17592186044417 then
                                  Option.bind (g_tri_Condition d_1.1 d_1.2 d_6.snd) fun (d_9 : (Nat → Int) × (Nat → Int) × Bool) =>
                                    bif (allN 276 fun (j : Nat) => d_9.fst j == d_1.fst j) && ((allN 24 fun (j : Nat) => d_9.snd.fst j == d_1.snd j) && true) then
                                      Option.bind (g_tri_Most d.1 d.snd.1) fun (d : Int) => bif d == 17592186044416 then k !d_9.snd.snd else k false
                                    else k false
                                else k false
                              else k false
                          else k false
                      else k false
                  else k false
              else k false
          else k false
def f_astrolabelaw9_awake  : Option (Bool) := K_astrolabelaw9_awake f_tri_New f_tri_Set f_tri_Diag f_tri_Good f_tri_At f_tri_U f_tri_Condition f_tri_Most   some
section
open Go.Ab.Rdr
def QA_astrolabelaw9_awake := ((pair nil nil) : Rdr (List AV × List Blk) _)
end
def F_astrolabelaw9_awake (f : Option (Bool)) : Sem1 := fun args h => match (QA_astrolabelaw9_awake).rd (args, h) with
  | some b => .opt (f ) fun (d : Bool) => .leaf (Res.mk (AV.r (RV.c (CV.f (FV.b d)))) [] [])
  | none => .fail
theorem d_astrolabelaw9_awake (g_tri_New : Nat → Bool → (Nat → Int) → Bool → Option ((Nat → Int) × (Nat → Int) × Bool)) (g_tri_Set : (Nat → Int) → (Nat → Int) → Int → Int → Int → Option ((Nat → Int) × (Nat → Int))) (g_tri_Diag : (Nat → Int) → (Nat → Int) → Bool → Option ((Nat → Int) × Bool)) (g_tri_Good : (Nat → Int) → (Nat → Int) → Option Bool) (g_tri_At : (Nat → Int) → (Nat → Int) → Int → Int → Bool → Option (Int × Bool)) (g_tri_U : (Nat → Int) → (Nat → Int) → Int → Int → Option Int) (g_tri_Condition : (Nat → Int) → (Nat → Int) → Bool → Option ((Nat → Int) × (Nat → Int) × Bool)) (g_tri_Most : (Nat → Int) → (Nat → Int) → Option Int)   : den Try.prog (envOf [(40, F_tri_New g_tri_New), (43, F_tri_Set g_tri_Set), (50, F_tri_Diag g_tri_Diag), (41, F_tri_Good g_tri_Good), (46, F_tri_At g_tri_At), (42, F_tri_U g_tri_U), (48, F_tri_Condition g_tri_Condition), (51, F_tri_Most g_tri_Most)]) ⟨[], [], [], [], none⟩ 200 39 [] [] =
    K_astrolabelaw9_awake g_tri_New g_tri_Set g_tri_Diag g_tri_Good g_tri_At g_tri_U g_tri_Condition g_tri_Most   (fun (d : Bool) => some (Res.mk (AV.r (RV.c (CV.f (FV.b d)))) [] [])) := by kernel_rfl
theorem m_astrolabelaw9_awake {ρ σ : Type} (q : ρ → Option σ) (g_tri_New : Nat → Bool → (Nat → Int) → Bool → Option ((Nat → Int) × (Nat → Int) × Bool)) (g_tri_Set : (Nat → Int) → (Nat → Int) → Int → Int → Int → Option ((Nat → Int) × (Nat → Int))) (g_tri_Diag : (Nat → Int) → (Nat → Int) → Bool → Option ((Nat → Int) × Bool)) (g_tri_Good : (Nat → Int) → (Nat → Int) → Option Bool) (g_tri_At : (Nat → Int) → (Nat → Int) → Int → Int → Bool → Option (Int × Bool)) (g_tri_U : (Nat → Int) → (Nat → Int) → Int → Int → Option Int) (g_tri_Condition : (Nat → Int) → (Nat → Int) → Bool → Option ((Nat → Int) × (Nat → Int) × Bool)) (g_tri_Most : (Nat → Int) → (Nat → Int) → Option Int)    (k : (Bool) → Option ρ) : (K_astrolabelaw9_awake g_tri_New g_tri_Set g_tri_Diag g_tri_Good g_tri_At g_tri_U g_tri_Condition g_tri_Most   k).bind q = K_astrolabelaw9_awake g_tri_New g_tri_Set g_tri_Diag g_tri_Good g_tri_At g_tri_U g_tri_Condition g_tri_Most   (fun d => (k d).bind q) := by
  simp only [K_astrolabelaw9_awake, bnd_cond, bnd_bind, bnd_none, bnd_sum]
theorem qa_astrolabelaw9_awake : ∀ b, (QA_astrolabelaw9_awake).em b = ([], []) := fun b => by kernel_rfl
theorem e_astrolabelaw9_awake {f : Option (Bool)} {args : List AV} {h : List Blk} {r : Res} (hr : (F_astrolabelaw9_awake f args h).eval = some r) : args = [] ∧ h = [] ∧ (f ).bind (fun (d : Bool) => some (Res.mk (AV.r (RV.c (CV.f (FV.b d)))) [] [])) = some r := by
  unfold F_astrolabelaw9_awake at hr
  split at hr
  · rename_i b hb
    have e := ((QA_astrolabelaw9_awake).ok _ _ hb).trans (qa_astrolabelaw9_awake b)
    rw [opt_eval2] at hr
    exact ⟨(Prod.mk.inj e).1, (Prod.mk.inj e).2, hr⟩
  · cases hr
theorem n_astrolabelaw9_awake {σ : Type} (q : (Bool) → Option σ)  : (f_astrolabelaw9_awake ).bind q = K_astrolabelaw9_awake f_tri_New f_tri_Set f_tri_Diag f_tri_Good f_tri_At f_tri_U f_tri_Condition f_tri_Most   q := by
  unfold f_astrolabelaw9_awake
  exact m_astrolabelaw9_awake q f_tri_New f_tri_Set f_tri_Diag f_tri_Good f_tri_At f_tri_U f_tri_Condition f_tri_Most    some
theorem s_astrolabelaw9_awake : Sound Try.prog 39 (F_astrolabelaw9_awake f_astrolabelaw9_awake) :=
  (inl_sound (l := [(40, F_tri_New f_tri_New), (43, F_tri_Set f_tri_Set), (50, F_tri_Diag f_tri_Diag), (41, F_tri_Good f_tri_Good), (46, F_tri_At f_tri_At), (42, F_tri_U f_tri_U), (48, F_tri_Condition f_tri_Condition), (51, F_tri_Most f_tri_Most)]) (.cons s_tri_New (.cons s_tri_Set (.cons s_tri_Diag (.cons s_tri_Good (.cons s_tri_At (.cons s_tri_U (.cons s_tri_Condition (.cons s_tri_Most (.nil _))))))))) mixed [] [] 200 (by kernel_rfl)).by (F := F_astrolabelaw9_awake f_astrolabelaw9_awake) fun args b r hr => by
  obtain ⟨rfl, rfl, hr1⟩ := e_astrolabelaw9_awake hr
  exact inl_eval ((d_astrolabelaw9_awake f_tri_New f_tri_Set f_tri_Diag f_tri_Good f_tri_At f_tri_U f_tri_Condition f_tri_Most  ).trans ((n_astrolabelaw9_awake (fun (d : Bool) => some (Res.mk (AV.r (RV.c (CV.f (FV.b d)))) [] [])) ).symm.trans hr1))

def K_astrolabelaw9_TriKnown {ρ : Type} (g_astrolabelaw9_awake : Option Bool) (g_tri_New : Nat → Bool → (Nat → Int) → Bool → Option ((Nat → Int) × (Nat → Int) × Bool)) (g_tri_Good : (Nat → Int) → (Nat → Int) → Option Bool) (g_tri_U : (Nat → Int) → (Nat → Int) → Int → Int → Option Int) (g_tri_Set : (Nat → Int) → (Nat → Int) → Int → Int → Int → Option ((Nat → Int) × (Nat → Int)))   (k : (Bool) → Option ρ) : Option ρ :=
  Option.bind g_astrolabelaw9_awake fun (d : Bool) =>
    bif !d then k false
    else
      Option.bind (g_tri_New 2 false (fun (j : Nat) => bif Nat.beq j 1 then 72057594037927937 else bif Nat.beq j 0 then 0 else 0) true) fun (d : (Nat → Int) × (Nat → Int) × Bool) =>
        bif d.snd.snd then
          bif d.snd.fst 0 == 1 then
            bif d.snd.fst 1 == 72057594037927936 then
              Option.bind (g_tri_Good (fun (x : Nat) => 0) fun (x : Nat) => 0) fun (d_1 : Bool) =>
                bif !d_1 then
                  Option.bind (g_tri_U d.1 d.snd.1 24 25) fun (d_2 : Int) =>
                    bif d_2 == 0 then
                      Option.bind (g_tri_Set d.1 d.snd.1 1 1 5) fun (d_3 : (Nat → Int) × (Nat → Int)) =>
                        k ((allN 276 fun (j : Nat) => d_3.fst j == d.fst j) && ((allN 24 fun (j : Nat) => d_3.snd j == d.snd.fst j) && true))
                    else k false
                else k false
            else k false
          else k false
        else k false
def f_astrolabelaw9_TriKnown  : Option (Bool) := K_astrolabelaw9_TriKnown f_astrolabelaw9_awake f_tri_New f_tri_Good f_tri_U f_tri_Set   some
section
open Go.Ab.Rdr
def QA_astrolabelaw9_TriKnown := ((pair nil nil) : Rdr (List AV × List Blk) _)
end
def F_astrolabelaw9_TriKnown (f : Option (Bool)) : Sem1 := fun args h => match (QA_astrolabelaw9_TriKnown).rd (args, h) with
  | some b => .opt (f ) fun (d : Bool) => .leaf (Res.mk (AV.r (RV.c (CV.f (FV.b d)))) [] [])
  | none => .fail
theorem d_astrolabelaw9_TriKnown (g_astrolabelaw9_awake : Option Bool) (g_tri_New : Nat → Bool → (Nat → Int) → Bool → Option ((Nat → Int) × (Nat → Int) × Bool)) (g_tri_Good : (Nat → Int) → (Nat → Int) → Option Bool) (g_tri_U : (Nat → Int) → (Nat → Int) → Int → Int → Option Int) (g_tri_Set : (Nat → Int) → (Nat → Int) → Int → Int → Int → Option ((Nat → Int) × (Nat → Int)))   : den Try.prog (envOf [(39, F_astrolabelaw9_awake g_astrolabelaw9_awake), (40, F_tri_New g_tri_New), (41, F_tri_Good g_tri_Good), (42, F_tri_U g_tri_U), (43, F_tri_Set g_tri_Set)]) ⟨[], [], [], [], none⟩ 200 11 [] [] =
    K_astrolabelaw9_TriKnown g_astrolabelaw9_awake g_tri_New g_tri_Good g_tri_U g_tri_Set   (fun (d : Bool) => some (Res.mk (AV.r (RV.c (CV.f (FV.b d)))) [] [])) := by kernel_rfl
theorem m_astrolabelaw9_TriKnown {ρ σ : Type} (q : ρ → Option σ) (g_astrolabelaw9_awake : Option Bool) (g_tri_New : Nat → Bool → (Nat → Int) → Bool → Option ((Nat → Int) × (Nat → Int) × Bool)) (g_tri_Good : (Nat → Int) → (Nat → Int) → Option Bool) (g_tri_U : (Nat → Int) → (Nat → Int) → Int → Int → Option Int) (g_tri_Set : (Nat → Int) → (Nat → Int) → Int → Int → Int → Option ((Nat → Int) × (Nat → Int)))    (k : (Bool) → Option ρ) : (K_astrolabelaw9_TriKnown g_astrolabelaw9_awake g_tri_New g_tri_Good g_tri_U g_tri_Set   k).bind q = K_astrolabelaw9_TriKnown g_astrolabelaw9_awake g_tri_New g_tri_Good g_tri_U g_tri_Set   (fun d => (k d).bind q) := by
  simp only [K_astrolabelaw9_TriKnown, bnd_cond, bnd_bind, bnd_none, bnd_sum]
theorem qa_astrolabelaw9_TriKnown : ∀ b, (QA_astrolabelaw9_TriKnown).em b = ([], []) := fun b => by kernel_rfl
theorem e_astrolabelaw9_TriKnown {f : Option (Bool)} {args : List AV} {h : List Blk} {r : Res} (hr : (F_astrolabelaw9_TriKnown f args h).eval = some r) : args = [] ∧ h = [] ∧ (f ).bind (fun (d : Bool) => some (Res.mk (AV.r (RV.c (CV.f (FV.b d)))) [] [])) = some r := by
  unfold F_astrolabelaw9_TriKnown at hr
  split at hr
  · rename_i b hb
    have e := ((QA_astrolabelaw9_TriKnown).ok _ _ hb).trans (qa_astrolabelaw9_TriKnown b)
    rw [opt_eval2] at hr
    exact ⟨(Prod.mk.inj e).1, (Prod.mk.inj e).2, hr⟩
  · cases hr
theorem n_astrolabelaw9_TriKnown {σ : Type} (q : (Bool) → Option σ)  : (f_astrolabelaw9_TriKnown ).bind q = K_astrolabelaw9_TriKnown f_astrolabelaw9_awake f_tri_New f_tri_Good f_tri_U f_tri_Set   q := by
  unfold f_astrolabelaw9_TriKnown
  exact m_astrolabelaw9_TriKnown q f_astrolabelaw9_awake f_tri_New f_tri_Good f_tri_U f_tri_Set    some
theorem s_astrolabelaw9_TriKnown : Sound Try.prog 11 (F_astrolabelaw9_TriKnown f_astrolabelaw9_TriKnown) :=
  (inl_sound (l := [(39, F_astrolabelaw9_awake f_astrolabelaw9_awake), (40, F_tri_New f_tri_New), (41, F_tri_Good f_tri_Good), (42, F_tri_U f_tri_U), (43, F_tri_Set f_tri_Set)]) (.cons s_astrolabelaw9_awake (.cons s_tri_New (.cons s_tri_Good (.cons s_tri_U (.cons s_tri_Set (.nil _)))))) mixed [] [] 200 (by kernel_rfl)).by (F := F_astrolabelaw9_TriKnown f_astrolabelaw9_TriKnown) fun args b r hr => by
  obtain ⟨rfl, rfl, hr1⟩ := e_astrolabelaw9_TriKnown hr
  exact inl_eval ((d_astrolabelaw9_TriKnown f_astrolabelaw9_awake f_tri_New f_tri_Good f_tri_U f_tri_Set  ).trans ((n_astrolabelaw9_TriKnown (fun (d : Bool) => some (Res.mk (AV.r (RV.c (CV.f (FV.b d)))) [] [])) ).symm.trans hr1))

end Go.Proofs.Ytmlmpcabphgfaaa
