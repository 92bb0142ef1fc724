/-
  Contracts by plain functions: astrolabelaw1.WideRounds
-/
import Derived.Test.YtcalippagaaikaaG2
import Derived.Test.YtcalippagaaikaaC3
set_option maxRecDepth 100000
set_option maxHeartbeats 4000000
set_option linter.unusedVariables false
namespace Go.Proofs.Ytcalippagaaikaa
open Go.Ab
def K_astrolabelaw1_WideRounds {ρ : Type} (g_astrolabelaw1_awake : Option Bool) (g_wide_Round : Int → Int → Int → Option (Int × Bool)) (g_astrolabelaw1_big : Int → Int → Option (Bool × (Nat → Int))) (g_astrolaberef1_Round : Bool → (Nat → Int) → Int → Option (Bool × (Nat → Int))) (g_astrolaberef1_Fits : Bool → (Nat → Int) → Int → Option Bool) (g_astrolaberef1_Small : Bool → (Nat → Int) → Option Int) (g_wide_Div : Int → Int → Int → Option (Int × Bool)) (g_astrolaberef1_Of : Int → Option (Bool × (Nat → Int))) (g_astrolaberef1_Div : Bool → (Nat → Int) → Bool → (Nat → Int) → Option (Bool × (Nat → Int)))  (x0 : Int) (x1 : Int) (x2 : Int) (x3 : Int) (k : (Bool) → Option ρ) : Option ρ :=
  Option.bind g_astrolabelaw1_awake fun (d : Bool) =>
    bif !d then k false
    else
      Option.bind (g_wide_Round x0 x1 x2) fun (d : Int × Bool) =>
        bif decide (x2 < 0) then
          bif d.2 then k false
          else
            bif d.1 != 0 then k false
            else
              Option.bind (g_wide_Div x0 x1 x3) fun (d : Int × Bool) =>
                bif x3 == 0 then bif !d.2 then k (d.1 == 0) else k false
                else
                  Option.bind (g_astrolabelaw1_big x0 x1) fun (d_1 : Bool × (Nat → Int)) =>
                    Option.bind (g_astrolaberef1_Of x3) fun (d_2 : Bool × (Nat → Int)) =>
                      Option.bind (g_astrolaberef1_Div d_1.1 d_1.2 d_2.1 d_2.2) fun (d_3 : Bool × (Nat → Int)) =>
                        Option.bind (g_astrolaberef1_Fits d_3.1 d_3.2 63) fun (d_4 : Bool) =>
                          bif d.2 == d_4 then
                            bif d.2 then Option.bind (g_astrolaberef1_Small d_3.1 d_3.2) fun (d_5 : Int) => bif d.1 == d_5 then k true else bif !d.2 then k (d.1 == 0) else k false
                            else bif !d.2 then k (d.1 == 0) else k false
                          else k false
        else
          bif decide (x2 > 126) then
            bif d.2 then k false
            else
              bif d.1 != 0 then k false
              else
                Option.bind (g_wide_Div x0 x1 x3) fun (d : Int × Bool) =>
                  bif x3 == 0 then bif !d.2 then k (d.1 == 0) else k false
                  else
                    Option.bind (g_astrolabelaw1_big x0 x1) fun (d_1 : Bool × (Nat → Int)) =>
                      Option.bind (g_astrolaberef1_Of x3) fun (d_2 : Bool × (Nat → Int)) =>
                        Option.bind (g_astrolaberef1_Div d_1.1 d_1.2 d_2.1 d_2.2) fun (d_3 : Bool × (Nat → Int)) =>
                          Option.bind (g_astrolaberef1_Fits d_3.1 d_3.2 63) fun (d_4 : Bool) =>
                            bif d.2 == d_4 then
                              bif d.2 then Option.bind (g_astrolaberef1_Small d_3.1 d_3.2) fun (d_5 : Int) => bif d.1 == d_5 then k true else bif !d.2 then k (d.1 == 0) else k false
                              else bif !d.2 then k (d.1 == 0) else k false
                            else k false
          else
            Option.bind (g_astrolabelaw1_big x0 x1) fun (d_1 : Bool × (Nat → Int)) =>
              Option.bind (g_astrolaberef1_Round d_1.1 d_1.2 x2) fun (d_2 : Bool × (Nat → Int)) =>
                Option.bind (g_astrolaberef1_Fits d_2.1 d_2.2 63) fun (d_3 : Bool) =>
                  bif !d.2 == d_3 then k false
                  else
                    bif d.2 then
                      Option.bind (g_astrolaberef1_Small d_2.1 d_2.2) fun (d_4 : Int) =>
                        bif d.1 != d_4 then k false
                        else
                          bif !d.2 then
                            bif d.1 != 0 then k false
                            else
                              Option.bind (g_wide_Div x0 x1 x3) fun (d : Int × Bool) =>
                                bif x3 == 0 then bif !d.2 then k (d.1 == 0) else k false
                                else
                                  Option.bind (g_astrolabelaw1_big x0 x1) fun (d_5 : Bool × (Nat → Int)) =>
                                    Option.bind (g_astrolaberef1_Of x3) fun (d_6 : Bool × (Nat → Int)) =>
                                      Option.bind (g_astrolaberef1_Div d_5.1 d_5.2 d_6.1 d_6.2) fun (d_7 : Bool × (Nat → Int)) =>
                                        Option.bind (g_astrolaberef1_Fits d_7.1 d_7.2 63) fun (d_8 : Bool) =>
                                          bif d.2 == d_8 then
                                            bif d.2 then
                                              Option.bind (g_astrolaberef1_Small d_7.1 d_7.2) fun (d_9 : Int) => bif d.1 == d_9 then k true else bif !d.2 then k (d.1 == 0) else k false
                                            else bif !d.2 then k (d.1 == 0) else k false
                                          else k false
                          else
                            Option.bind (g_wide_Div x0 x1 x3) fun (d : Int × Bool) =>
                              bif x3 == 0 then bif !d.2 then k (d.1 == 0) else k false
                              else
                                Option.bind (g_astrolabelaw1_big x0 x1) fun (d_5 : Bool × (Nat → Int)) =>
                                  Option.bind (g_astrolaberef1_Of x3) fun (d_6 : Bool × (Nat → Int)) =>
                                    Option.bind (g_astrolaberef1_Div d_5.1 d_5.2 d_6.1 d_6.2) fun (d_7 : Bool × (Nat → Int)) =>
                                      Option.bind (g_astrolaberef1_Fits d_7.1 d_7.2 63) fun (d_8 : Bool) =>
                                        bif d.2 == d_8 then
                                          bif d.2 then
                                            Option.bind (g_astrolaberef1_Small d_7.1 d_7.2) fun (d_9 : Int) => bif d.1 == d_9 then k true else bif !d.2 then k (d.1 == 0) else k false
                                          else bif !d.2 then k (d.1 == 0) else k false
                                        else k false
                    else
                      bif !d.2 then
                        bif d.1 != 0 then k false
                        else
                          Option.bind (g_wide_Div x0 x1 x3) fun (d : Int × Bool) =>
                            bif x3 == 0 then bif !d.2 then k (d.1 == 0) else k false
                            else
                              Option.bind (g_astrolabelaw1_big x0 x1) fun (d_4 : Bool × (Nat → Int)) =>
                                Option.bind (g_astrolaberef1_Of x3) fun (d_5 : Bool × (Nat → Int)) =>
                                  Option.bind (g_astrolaberef1_Div d_4.1 d_4.2 d_5.1 d_5.2) fun (d_6 : Bool × (Nat → Int)) =>
                                    Option.bind (g_astrolaberef1_Fits d_6.1 d_6.2 63) fun (d_7 : Bool) =>
                                      bif d.2 == d_7 then
                                        bif d.2 then Option.bind (g_astrolaberef1_Small d_6.1 d_6.2) fun (d_8 : Int) => bif d.1 == d_8 then k true else bif !d.2 then k (d.1 == 0) else k false
                                        else bif !d.2 then k (d.1 == 0) else k false
                                      else k false
                      else
                        Option.bind (g_wide_Div x0 x1 x3) fun (d : Int × Bool) =>
                          bif x3 == 0 then bif !d.2 then k (d.1 == 0) else k false
                          else
                            Option.bind (g_astrolabelaw1_big x0 x1) fun (d_4 : Bool × (Nat → Int)) =>
                              Option.bind (g_astrolaberef1_Of x3) fun (d_5 : Bool × (Nat → Int)) =>
                                Option.bind (g_astrolaberef1_Div d_4.1 d_4.2 d_5.1 d_5.2) fun (d_6 : Bool × (Nat → Int)) =>
                                  Option.bind (g_astrolaberef1_Fits d_6.1 d_6.2 63) fun (d_7 : Bool) =>
                                    bif d.2 == d_7 then
                                      bif d.2 then Option.bind (g_astrolaberef1_Small d_6.1 d_6.2) fun (d_8 : Int) => bif d.1 == d_8 then k true else bif !d.2 then k (d.1 == 0) else k false
                                      else bif !d.2 then k (d.1 == 0) else k false
                                    else k false
def f_astrolabelaw1_WideRounds (x0 : Int) (x1 : Int) (x2 : Int) (x3 : Int) : Option (Bool) := K_astrolabelaw1_WideRounds f_astrolabelaw1_awake f_wide_Round f_astrolabelaw1_big f_astrolaberef1_Round f_astrolaberef1_Fits f_astrolaberef1_Small f_wide_Div f_astrolaberef1_Of f_astrolaberef1_Div  x0 x1 x2 x3 some
section
open Go.Ab.Rdr
def QA_astrolabelaw1_WideRounds := ((pair (cons (ar (ra (cons (gc (cf (fi .i64 hole))) (cons (gc (cf (fi .u64 hole))) nil)))) (cons (ar (rc (cf (fi .i64 hole)))) (cons (ar (rc (cf (fi .i64 hole)))) nil))) nil) : Rdr (List AV × List Blk) _)
end
def F_astrolabelaw1_WideRounds (f : (Int) → (Int) → (Int) → (Int) → Option (Bool)) : Sem1 := fun args h => match (QA_astrolabelaw1_WideRounds).rd (args, h) with
  | some b => .opt (f b.1.1.1 b.1.1.2.1 b.1.2.1 b.1.2.2.1) fun (d : Bool) => .leaf (Res.mk (AV.r (RV.c (CV.f (FV.b d)))) [] [])
  | none => .fail
theorem d_astrolabelaw1_WideRounds (g_astrolabelaw1_awake : Option Bool) (g_wide_Round : Int → Int → Int → Option (Int × Bool)) (g_astrolabelaw1_big : Int → Int → Option (Bool × (Nat → Int))) (g_astrolaberef1_Round : Bool → (Nat → Int) → Int → Option (Bool × (Nat → Int))) (g_astrolaberef1_Fits : Bool → (Nat → Int) → Int → Option Bool) (g_astrolaberef1_Small : Bool → (Nat → Int) → Option Int) (g_wide_Div : Int → Int → Int → Option (Int × Bool)) (g_astrolaberef1_Of : Int → Option (Bool × (Nat → Int))) (g_astrolaberef1_Div : Bool → (Nat → Int) → Bool → (Nat → Int) → Option (Bool × (Nat → Int)))  (x0 : Int) (x1 : Int) (x2 : Int) (x3 : Int) : den Try.prog (envOf [(14, F_astrolabelaw1_awake g_astrolabelaw1_awake), (17, F_wide_Round g_wide_Round), (26, F_astrolabelaw1_big g_astrolabelaw1_big), (33, F_astrolaberef1_Round g_astrolaberef1_Round), (27, F_astrolaberef1_Fits g_astrolaberef1_Fits), (34, F_astrolaberef1_Small g_astrolaberef1_Small), (18, F_wide_Div g_wide_Div), (22, F_astrolaberef1_Of g_astrolaberef1_Of), (35, F_astrolaberef1_Div g_astrolaberef1_Div)]) ⟨[], [], [], [], none⟩ 300 5 [.r (.agg [.c (.f (.i .i64 x0)), .c (.f (.i .u64 x1))]), .r (.c (.f (.i .i64 x2))), .r (.c (.f (.i .i64 x3)))] [] =
    K_astrolabelaw1_WideRounds g_astrolabelaw1_awake g_wide_Round g_astrolabelaw1_big g_astrolaberef1_Round g_astrolaberef1_Fits g_astrolaberef1_Small g_wide_Div g_astrolaberef1_Of g_astrolaberef1_Div  x0 x1 x2 x3 (fun (d : Bool) => some (Res.mk (AV.r (RV.c (CV.f (FV.b d)))) [] [])) := by kernel_rfl
theorem m_astrolabelaw1_WideRounds {ρ σ : Type} (q : ρ → Option σ) (g_astrolabelaw1_awake : Option Bool) (g_wide_Round : Int → Int → Int → Option (Int × Bool)) (g_astrolabelaw1_big : Int → Int → Option (Bool × (Nat → Int))) (g_astrolaberef1_Round : Bool → (Nat → Int) → Int → Option (Bool × (Nat → Int))) (g_astrolaberef1_Fits : Bool → (Nat → Int) → Int → Option Bool) (g_astrolaberef1_Small : Bool → (Nat → Int) → Option Int) (g_wide_Div : Int → Int → Int → Option (Int × Bool)) (g_astrolaberef1_Of : Int → Option (Bool × (Nat → Int))) (g_astrolaberef1_Div : Bool → (Nat → Int) → Bool → (Nat → Int) → Option (Bool × (Nat → Int)))   (x0 : Int) (x1 : Int) (x2 : Int) (x3 : Int) (k : (Bool) → Option ρ) : (K_astrolabelaw1_WideRounds g_astrolabelaw1_awake g_wide_Round g_astrolabelaw1_big g_astrolaberef1_Round g_astrolaberef1_Fits g_astrolaberef1_Small g_wide_Div g_astrolaberef1_Of g_astrolaberef1_Div  x0 x1 x2 x3 k).bind q = K_astrolabelaw1_WideRounds g_astrolabelaw1_awake g_wide_Round g_astrolabelaw1_big g_astrolaberef1_Round g_astrolaberef1_Fits g_astrolaberef1_Small g_wide_Div g_astrolaberef1_Of g_astrolaberef1_Div  x0 x1 x2 x3 (fun d => (k d).bind q) := by
  simp only [K_astrolabelaw1_WideRounds, bnd_cond, bnd_bind, bnd_none, bnd_sum]
theorem qa_astrolabelaw1_WideRounds : ∀ b, (QA_astrolabelaw1_WideRounds).em b = ([.r (.agg [.c (.f (.i .i64 b.1.1.1)), .c (.f (.i .u64 b.1.1.2.1))]), .r (.c (.f (.i .i64 b.1.2.1))), .r (.c (.f (.i .i64 b.1.2.2.1)))], []) := fun b => by kernel_rfl
theorem e_astrolabelaw1_WideRounds {f : (Int) → (Int) → (Int) → (Int) → Option (Bool)} {args : List AV} {h : List Blk} {r : Res} (hr : (F_astrolabelaw1_WideRounds f args h).eval = some r) : ∃ x0 x1 x2 x3, args = [.r (.agg [.c (.f (.i .i64 x0)), .c (.f (.i .u64 x1))]), .r (.c (.f (.i .i64 x2))), .r (.c (.f (.i .i64 x3)))] ∧ h = [] ∧ (f x0 x1 x2 x3).bind (fun (d : Bool) => some (Res.mk (AV.r (RV.c (CV.f (FV.b d)))) [] [])) = some r := by
  unfold F_astrolabelaw1_WideRounds at hr
  split at hr
  · rename_i b hb
    have e := ((QA_astrolabelaw1_WideRounds).ok _ _ hb).trans (qa_astrolabelaw1_WideRounds b)
    rw [opt_eval2] at hr
    exact ⟨b.1.1.1, b.1.1.2.1, b.1.2.1, b.1.2.2.1, (Prod.mk.inj e).1, (Prod.mk.inj e).2, hr⟩
  · cases hr
theorem n_astrolabelaw1_WideRounds {σ : Type} (q : (Bool) → Option σ) (x0 : Int) (x1 : Int) (x2 : Int) (x3 : Int) : (f_astrolabelaw1_WideRounds x0 x1 x2 x3).bind q = K_astrolabelaw1_WideRounds f_astrolabelaw1_awake f_wide_Round f_astrolabelaw1_big f_astrolaberef1_Round f_astrolaberef1_Fits f_astrolaberef1_Small f_wide_Div f_astrolaberef1_Of f_astrolaberef1_Div  x0 x1 x2 x3 q := by
  unfold f_astrolabelaw1_WideRounds
  exact m_astrolabelaw1_WideRounds q f_astrolabelaw1_awake f_wide_Round f_astrolabelaw1_big f_astrolaberef1_Round f_astrolaberef1_Fits f_astrolaberef1_Small f_wide_Div f_astrolaberef1_Of f_astrolaberef1_Div   x0 x1 x2 x3 some
theorem s_astrolabelaw1_WideRounds : Sound Try.prog 5 (F_astrolabelaw1_WideRounds f_astrolabelaw1_WideRounds) :=
  (inl_sound (l := [(14, F_astrolabelaw1_awake f_astrolabelaw1_awake), (17, F_wide_Round f_wide_Round), (26, F_astrolabelaw1_big f_astrolabelaw1_big), (33, F_astrolaberef1_Round f_astrolaberef1_Round), (27, F_astrolaberef1_Fits f_astrolaberef1_Fits), (34, F_astrolaberef1_Small f_astrolaberef1_Small), (18, F_wide_Div f_wide_Div), (22, F_astrolaberef1_Of f_astrolaberef1_Of), (35, F_astrolaberef1_Div f_astrolaberef1_Div)]) (.cons s_astrolabelaw1_awake (.cons s_wide_Round (.cons s_astrolabelaw1_big (.cons s_astrolaberef1_Round (.cons s_astrolaberef1_Fits (.cons s_astrolaberef1_Small (.cons s_wide_Div (.cons s_astrolaberef1_Of (.cons s_astrolaberef1_Div (.nil _)))))))))) mixed [] [] 300 (by kernel_rfl)).by (F := F_astrolabelaw1_WideRounds f_astrolabelaw1_WideRounds) fun args b r hr => by
  obtain ⟨x0, x1, x2, x3, rfl, rfl, hr1⟩ := e_astrolabelaw1_WideRounds hr
  exact inl_eval ((d_astrolabelaw1_WideRounds f_astrolabelaw1_awake f_wide_Round f_astrolabelaw1_big f_astrolaberef1_Round f_astrolaberef1_Fits f_astrolaberef1_Small f_wide_Div f_astrolaberef1_Of f_astrolaberef1_Div  x0 x1 x2 x3).trans ((n_astrolabelaw1_WideRounds (fun (d : Bool) => some (Res.mk (AV.r (RV.c (CV.f (FV.b d)))) [] [])) x0 x1 x2 x3).symm.trans hr1))

end Go.Proofs.Ytcalippagaaikaa
