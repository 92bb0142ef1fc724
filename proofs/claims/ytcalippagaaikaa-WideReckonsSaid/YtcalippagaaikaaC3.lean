/-
  Contracts by plain functions: astrolabelaw1.awake, astrolabelaw1.WideKnown
-/
import Derived.Test.YtcalippagaaikaaC2
set_option maxRecDepth 100000
set_option maxHeartbeats 4000000
set_option linter.unusedVariables false
namespace Go.Proofs.Ytcalippagaaikaa
open Go.Ab
def K_astrolabelaw1_awake {ρ : Type} (g_wide_Of : Int → Option (Int × Int)) (g_wide_Round : Int → Int → Int → Option (Int × Bool)) (g_wide_Div : Int → Int → Int → Option (Int × Bool)) (g_wide_Root : Int → Int → Option (Int × Bool)) (g_wide_Add : Nat → (Nat → Int) → (Nat → Int) → Bool → Option (Int × Int × Bool)) (g_wide_Neg : Int → Int → Option (Int × Int × Bool)) (g_wide_Shift : Int → Int → Option (Int × Int × Bool)) (g_wide_Mul : Int → Int → Option (Int × Int)) (g_wide_Cmp : Int → Int → Int → Int → Option Int)   (k : (Bool) → Option ρ) : Option ρ :=
  Option.bind (g_wide_Of 5) fun (d : Int × Int) =>
    Option.bind (g_wide_Round d.fst d.snd 1) fun (d : Int × Bool) =>
      Option.bind (g_wide_Of (-7)) fun (d_1 : Int × Int) =>
        Option.bind (g_wide_Div d_1.fst d_1.snd 2) fun (d_2 : Int × Bool) =>
          Option.bind (g_wide_Of 7) fun (d_3 : Int × Int) =>
            Option.bind (g_wide_Root d_3.fst d_3.snd) fun (d_4 : Int × Bool) =>
              Option.bind (g_wide_Of 3) fun (d_5 : Int × Int) =>
                Option.bind (g_wide_Of (-5)) fun (d_6 : Int × Int) =>
                  Option.bind
                    (g_wide_Add 2 (fun (j : Nat) => bif Nat.beq j 1 then d_6.fst else bif Nat.beq j 0 then d_5.fst else d_5.fst)
                      (fun (j : Nat) => bif Nat.beq j 1 then d_6.snd else bif Nat.beq j 0 then d_5.snd else d_5.snd) true)
                    fun (d_7 : Int × Int × Bool) =>
                    Option.bind (g_wide_Of 4) fun (d_8 : Int × Int) =>
                      Option.bind (g_wide_Neg d_8.fst d_8.snd) fun (d_9 : Int × Int × Bool) =>
                        Option.bind (g_wide_Shift 3 64) fun (d_10 : Int × Int × Bool) =>
                          bif d.snd then
                            bif d.fst == 3 then
                              bif d_2.snd then
                                bif d_2.fst == -4 then
                                  bif d_4.snd then
                                    bif d_4.fst == 3 then
                                      bif d_7.snd.snd then
                                        Option.bind (g_wide_Of (-2)) fun (d : Int × Int) =>
                                          bif d_7.fst == d.fst && (d_7.snd.fst == d.snd && true) then
                                            bif d_9.snd.snd then
                                              Option.bind (g_wide_Of (-4)) fun (d : Int × Int) =>
                                                bif d_9.fst == d.fst && (d_9.snd.fst == d.snd && true) then
                                                  bif d_10.snd.snd then
                                                    bif d_10.fst == 3 && (d_10.snd.fst == 0 && true) then
                                                      Option.bind (g_wide_Mul 4611686018427387904 4) fun (d : Int × Int) =>
                                                        bif d.fst == 1 && (d.snd == 0 && true) then
                                                          Option.bind (g_wide_Of 1) fun (d : Int × Int) =>
                                                            Option.bind (g_wide_Of 2) fun (d_11 : Int × Int) => Option.bind (g_wide_Cmp d.fst d.snd d_11.fst d_11.snd) fun (d : Int) => k (d == -1)
                                                        else k false
                                                    else k false
                                                  else k false
                                                else k false
                                            else k false
                                          else k false
                                      else k false
                                    else k false
                                  else k false
                                else k false
                              else k false
                            else k false
                          else k false
def f_astrolabelaw1_awake  : Option (Bool) := K_astrolabelaw1_awake f_wide_Of f_wide_Round f_wide_Div f_wide_Root f_wide_Add f_wide_Neg f_wide_Shift f_wide_Mul f_wide_Cmp   some
section
open Go.Ab.Rdr
def QA_astrolabelaw1_awake := ((pair nil nil) : Rdr (List AV × List Blk) _)
end
def F_astrolabelaw1_awake (f : Option (Bool)) : Sem1 := fun args h => match (QA_astrolabelaw1_awake).rd (args, h) with
  | some b => .opt (f ) fun (d : Bool) => .leaf (Res.mk (AV.r (RV.c (CV.f (FV.b d)))) [] [])
  | none => .fail
theorem d_astrolabelaw1_awake (g_wide_Of : Int → Option (Int × Int)) (g_wide_Round : Int → Int → Int → Option (Int × Bool)) (g_wide_Div : Int → Int → Int → Option (Int × Bool)) (g_wide_Root : Int → Int → Option (Int × Bool)) (g_wide_Add : Nat → (Nat → Int) → (Nat → Int) → Bool → Option (Int × Int × Bool)) (g_wide_Neg : Int → Int → Option (Int × Int × Bool)) (g_wide_Shift : Int → Int → Option (Int × Int × Bool)) (g_wide_Mul : Int → Int → Option (Int × Int)) (g_wide_Cmp : Int → Int → Int → Int → Option Int)   : den Try.prog (envOf [(16, F_wide_Of g_wide_Of), (17, F_wide_Round g_wide_Round), (18, F_wide_Div g_wide_Div), (15, F_wide_Root g_wide_Root), (20, F_wide_Add g_wide_Add), (19, F_wide_Neg g_wide_Neg), (31, F_wide_Shift g_wide_Shift), (23, F_wide_Mul g_wide_Mul), (29, F_wide_Cmp g_wide_Cmp)]) ⟨[], [], [], [], none⟩ 200 14 [] [] =
    K_astrolabelaw1_awake g_wide_Of g_wide_Round g_wide_Div g_wide_Root g_wide_Add g_wide_Neg g_wide_Shift g_wide_Mul g_wide_Cmp   (fun (d : Bool) => some (Res.mk (AV.r (RV.c (CV.f (FV.b d)))) [] [])) := by kernel_rfl
theorem m_astrolabelaw1_awake {ρ σ : Type} (q : ρ → Option σ) (g_wide_Of : Int → Option (Int × Int)) (g_wide_Round : Int → Int → Int → Option (Int × Bool)) (g_wide_Div : Int → Int → Int → Option (Int × Bool)) (g_wide_Root : Int → Int → Option (Int × Bool)) (g_wide_Add : Nat → (Nat → Int) → (Nat → Int) → Bool → Option (Int × Int × Bool)) (g_wide_Neg : Int → Int → Option (Int × Int × Bool)) (g_wide_Shift : Int → Int → Option (Int × Int × Bool)) (g_wide_Mul : Int → Int → Option (Int × Int)) (g_wide_Cmp : Int → Int → Int → Int → Option Int)    (k : (Bool) → Option ρ) : (K_astrolabelaw1_awake g_wide_Of g_wide_Round g_wide_Div g_wide_Root g_wide_Add g_wide_Neg g_wide_Shift g_wide_Mul g_wide_Cmp   k).bind q = K_astrolabelaw1_awake g_wide_Of g_wide_Round g_wide_Div g_wide_Root g_wide_Add g_wide_Neg g_wide_Shift g_wide_Mul g_wide_Cmp   (fun d => (k d).bind q) := by
  simp only [K_astrolabelaw1_awake, bnd_cond, bnd_bind, bnd_none, bnd_sum]
theorem qa_astrolabelaw1_awake : ∀ b, (QA_astrolabelaw1_awake).em b = ([], []) := fun b => by kernel_rfl
theorem e_astrolabelaw1_awake {f : Option (Bool)} {args : List AV} {h : List Blk} {r : Res} (hr : (F_astrolabelaw1_awake f args h).eval = some r) : args = [] ∧ h = [] ∧ (f ).bind (fun (d : Bool) => some (Res.mk (AV.r (RV.c (CV.f (FV.b d)))) [] [])) = some r := by
  unfold F_astrolabelaw1_awake at hr
  split at hr
  · rename_i b hb
    have e := ((QA_astrolabelaw1_awake).ok _ _ hb).trans (qa_astrolabelaw1_awake b)
    rw [opt_eval2] at hr
    exact ⟨(Prod.mk.inj e).1, (Prod.mk.inj e).2, hr⟩
  · cases hr
theorem n_astrolabelaw1_awake {σ : Type} (q : (Bool) → Option σ)  : (f_astrolabelaw1_awake ).bind q = K_astrolabelaw1_awake f_wide_Of f_wide_Round f_wide_Div f_wide_Root f_wide_Add f_wide_Neg f_wide_Shift f_wide_Mul f_wide_Cmp   q := by
  unfold f_astrolabelaw1_awake
  exact m_astrolabelaw1_awake q f_wide_Of f_wide_Round f_wide_Div f_wide_Root f_wide_Add f_wide_Neg f_wide_Shift f_wide_Mul f_wide_Cmp    some
theorem s_astrolabelaw1_awake : Sound Try.prog 14 (F_astrolabelaw1_awake f_astrolabelaw1_awake) :=
  (inl_sound (l := [(16, F_wide_Of f_wide_Of), (17, F_wide_Round f_wide_Round), (18, F_wide_Div f_wide_Div), (15, F_wide_Root f_wide_Root), (20, F_wide_Add f_wide_Add), (19, F_wide_Neg f_wide_Neg), (31, F_wide_Shift f_wide_Shift), (23, F_wide_Mul f_wide_Mul), (29, F_wide_Cmp f_wide_Cmp)]) (.cons s_wide_Of (.cons s_wide_Round (.cons s_wide_Div (.cons s_wide_Root (.cons s_wide_Add (.cons s_wide_Neg (.cons s_wide_Shift (.cons s_wide_Mul (.cons s_wide_Cmp (.nil _)))))))))) mixed [] [] 200 (by kernel_rfl)).by (F := F_astrolabelaw1_awake f_astrolabelaw1_awake) fun args b r hr => by
  obtain ⟨rfl, rfl, hr1⟩ := e_astrolabelaw1_awake hr
  exact inl_eval ((d_astrolabelaw1_awake f_wide_Of f_wide_Round f_wide_Div f_wide_Root f_wide_Add f_wide_Neg f_wide_Shift f_wide_Mul f_wide_Cmp  ).trans ((n_astrolabelaw1_awake (fun (d : Bool) => some (Res.mk (AV.r (RV.c (CV.f (FV.b d)))) [] [])) ).symm.trans hr1))

def K_astrolabelaw1_WideKnown {ρ : Type} (g_astrolabelaw1_awake : Option Bool) (g_wide_Of : Int → Option (Int × Int)) (g_wide_Root : Int → Int → Option (Int × Bool)) (g_wide_Round : Int → Int → Int → Option (Int × Bool)) (g_wide_Div : Int → Int → Int → Option (Int × Bool)) (g_wide_Neg : Int → Int → Option (Int × Int × Bool)) (g_wide_Add : Nat → (Nat → Int) → (Nat → Int) → Bool → Option (Int × Int × Bool))   (k : (Bool) → Option ρ) : Option ρ :=
  Option.bind g_astrolabelaw1_awake fun (d : Bool) =>
    bif !d then k false
    else
      Option.bind (g_wide_Of 6) fun (d : Int × Int) =>
        Option.bind (g_wide_Root d.fst d.snd) fun (d : Int × Bool) =>
          Option.bind (g_wide_Of 5) fun (d_1 : Int × Int) =>
            Option.bind (g_wide_Round d_1.fst d_1.snd 127) fun (d_2 : Int × Bool) =>
              Option.bind (g_wide_Of 5) fun (d_3 : Int × Int) =>
                Option.bind (g_wide_Div d_3.fst d_3.snd 0) fun (d_4 : Int × Bool) =>
                  Option.bind (g_wide_Neg (-9223372036854775808) 0) fun (d_5 : Int × Int × Bool) =>
                    Option.bind (g_wide_Add 0 (fun (x : Nat) => 0) (fun (x : Nat) => 0) true) fun (d_6 : Int × Int × Bool) =>
                      Option.bind (g_wide_Of (-1)) fun (d_7 : Int × Int) =>
                        Option.bind (g_wide_Root d_7.fst d_7.snd) fun (d_8 : Int × Bool) =>
                          bif d.snd then
                            bif d.fst == 2 then
                              bif !d_2.snd then
                                bif !d_4.snd then bif !d_5.snd.snd then bif d_6.snd.snd then bif d_6.fst == 0 && (d_6.snd.fst == 0 && true) then k !d_8.snd else k false else k false else k false
                                else k false
                              else k false
                            else k false
                          else k false
def f_astrolabelaw1_WideKnown  : Option (Bool) := K_astrolabelaw1_WideKnown f_astrolabelaw1_awake f_wide_Of f_wide_Root f_wide_Round f_wide_Div f_wide_Neg f_wide_Add   some
section
open Go.Ab.Rdr
def QA_astrolabelaw1_WideKnown := ((pair nil nil) : Rdr (List AV × List Blk) _)
end
def F_astrolabelaw1_WideKnown (f : Option (Bool)) : Sem1 := fun args h => match (QA_astrolabelaw1_WideKnown).rd (args, h) with
  | some b => .opt (f ) fun (d : Bool) => .leaf (Res.mk (AV.r (RV.c (CV.f (FV.b d)))) [] [])
  | none => .fail
theorem d_astrolabelaw1_WideKnown (g_astrolabelaw1_awake : Option Bool) (g_wide_Of : Int → Option (Int × Int)) (g_wide_Root : Int → Int → Option (Int × Bool)) (g_wide_Round : Int → Int → Int → Option (Int × Bool)) (g_wide_Div : Int → Int → Int → Option (Int × Bool)) (g_wide_Neg : Int → Int → Option (Int × Int × Bool)) (g_wide_Add : Nat → (Nat → Int) → (Nat → Int) → Bool → Option (Int × Int × Bool))   : den Try.prog (envOf [(14, F_astrolabelaw1_awake g_astrolabelaw1_awake), (16, F_wide_Of g_wide_Of), (15, F_wide_Root g_wide_Root), (17, F_wide_Round g_wide_Round), (18, F_wide_Div g_wide_Div), (19, F_wide_Neg g_wide_Neg), (20, F_wide_Add g_wide_Add)]) ⟨[], [], [], [], none⟩ 200 3 [] [] =
    K_astrolabelaw1_WideKnown g_astrolabelaw1_awake g_wide_Of g_wide_Root g_wide_Round g_wide_Div g_wide_Neg g_wide_Add   (fun (d : Bool) => some (Res.mk (AV.r (RV.c (CV.f (FV.b d)))) [] [])) := by kernel_rfl
theorem m_astrolabelaw1_WideKnown {ρ σ : Type} (q : ρ → Option σ) (g_astrolabelaw1_awake : Option Bool) (g_wide_Of : Int → Option (Int × Int)) (g_wide_Root : Int → Int → Option (Int × Bool)) (g_wide_Round : Int → Int → Int → Option (Int × Bool)) (g_wide_Div : Int → Int → Int → Option (Int × Bool)) (g_wide_Neg : Int → Int → Option (Int × Int × Bool)) (g_wide_Add : Nat → (Nat → Int) → (Nat → Int) → Bool → Option (Int × Int × Bool))    (k : (Bool) → Option ρ) : (K_astrolabelaw1_WideKnown g_astrolabelaw1_awake g_wide_Of g_wide_Root g_wide_Round g_wide_Div g_wide_Neg g_wide_Add   k).bind q = K_astrolabelaw1_WideKnown g_astrolabelaw1_awake g_wide_Of g_wide_Root g_wide_Round g_wide_Div g_wide_Neg g_wide_Add   (fun d => (k d).bind q) := by
  simp only [K_astrolabelaw1_WideKnown, bnd_cond, bnd_bind, bnd_none, bnd_sum]
theorem qa_astrolabelaw1_WideKnown : ∀ b, (QA_astrolabelaw1_WideKnown).em b = ([], []) := fun b => by kernel_rfl
theorem e_astrolabelaw1_WideKnown {f : Option (Bool)} {args : List AV} {h : List Blk} {r : Res} (hr : (F_astrolabelaw1_WideKnown f args h).eval = some r) : args = [] ∧ h = [] ∧ (f ).bind (fun (d : Bool) => some (Res.mk (AV.r (RV.c (CV.f (FV.b d)))) [] [])) = some r := by
  unfold F_astrolabelaw1_WideKnown at hr
  split at hr
  · rename_i b hb
    have e := ((QA_astrolabelaw1_WideKnown).ok _ _ hb).trans (qa_astrolabelaw1_WideKnown b)
    rw [opt_eval2] at hr
    exact ⟨(Prod.mk.inj e).1, (Prod.mk.inj e).2, hr⟩
  · cases hr
theorem n_astrolabelaw1_WideKnown {σ : Type} (q : (Bool) → Option σ)  : (f_astrolabelaw1_WideKnown ).bind q = K_astrolabelaw1_WideKnown f_astrolabelaw1_awake f_wide_Of f_wide_Root f_wide_Round f_wide_Div f_wide_Neg f_wide_Add   q := by
  unfold f_astrolabelaw1_WideKnown
  exact m_astrolabelaw1_WideKnown q f_astrolabelaw1_awake f_wide_Of f_wide_Root f_wide_Round f_wide_Div f_wide_Neg f_wide_Add    some
theorem s_astrolabelaw1_WideKnown : Sound Try.prog 3 (F_astrolabelaw1_WideKnown f_astrolabelaw1_WideKnown) :=
  (inl_sound (l := [(14, F_astrolabelaw1_awake f_astrolabelaw1_awake), (16, F_wide_Of f_wide_Of), (15, F_wide_Root f_wide_Root), (17, F_wide_Round f_wide_Round), (18, F_wide_Div f_wide_Div), (19, F_wide_Neg f_wide_Neg), (20, F_wide_Add f_wide_Add)]) (.cons s_astrolabelaw1_awake (.cons s_wide_Of (.cons s_wide_Root (.cons s_wide_Round (.cons s_wide_Div (.cons s_wide_Neg (.cons s_wide_Add (.nil _)))))))) mixed [] [] 200 (by kernel_rfl)).by (F := F_astrolabelaw1_WideKnown f_astrolabelaw1_WideKnown) fun args b r hr => by
  obtain ⟨rfl, rfl, hr1⟩ := e_astrolabelaw1_WideKnown hr
  exact inl_eval ((d_astrolabelaw1_WideKnown f_astrolabelaw1_awake f_wide_Of f_wide_Root f_wide_Round f_wide_Div f_wide_Neg f_wide_Add  ).trans ((n_astrolabelaw1_WideKnown (fun (d : Bool) => some (Res.mk (AV.r (RV.c (CV.f (FV.b d)))) [] [])) ).symm.trans hr1))

end Go.Proofs.Ytcalippagaaikaa
