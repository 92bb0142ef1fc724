/-
  Contracts by plain functions: astrolabelaw5.VecSays
-/
import Derived.Test.YthbnojedlbeglaaVC
import Derived.Test.YthbnojedlbeglaaR4
set_option maxRecDepth 100000
set_option maxHeartbeats 4000000
set_option linter.unusedVariables false
namespace Go.Proofs.Ythbnojedlbeglaa
open Go.Ab
def K_astrolabelaw5_VecSays {ρ : Type} (g_astrolabelaw5_awake : Option Bool) (g_vec_Add : Nat → Bool → (Nat → Int) → (Nat → Int) → (Nat → Int) → Bool → Option (Int × Int × Int × Bool)) (g_astrolaberef4_Add : Int → Int → Int → Int → Int → Int → Bool → Option (Int × Int × Int × Bool)) (g_vec_Sub : Int → Int → Int → Int → Int → Int → Bool → Option (Int × Int × Int × Bool)) (g_astrolaberef4_Sub : Int → Int → Int → Int → Int → Int → Bool → Option (Int × Int × Int × Bool)) (g_vec_Scale : Int → Int → Int → Int → Bool → Option (Int × Int × Int × Bool)) (g_astrolaberef4_Scale : Int → Int → Int → Int → Bool → Option (Int × Int × Int × Bool)) (g_vec_Dot : Int → Int → Int → Int → Int → Int → Bool → Option (Int × Bool)) (g___astrolaberef2_Acc__Dot : Int → Nat → Nat → Bool → (Nat → Int) → (Nat → Int) → Bool → Bool → Option (Int × Bool)) (g_vec_Cross : Int → Int → Int → Int → Int → Int → Bool → Option (Int × Int × Int × Bool)) (g_astrolaberef4_Cross : Int → Int → Int → Int → Int → Int → Bool → Option (Int × Int × Int × Bool)) (g_vec_Norm : Int → Int → Int → Bool → Option (Int × Bool)) (g_astrolaberef4_Norm : Int → Int → Int → Bool → Option (Int × Bool)) (g_vec_Sat : Int → Int → Int → Bool → Option (Int × Int × Int × Bool)) (g_astrolaberef4_Sat : Int → Int → Int → Bool → Option (Int × Int × Int × Bool))  (x0 : Int) (x1 : Int) (x2 : Int) (x3 : Int) (x4 : Int) (x5 : Int) (x6 : Int) (k : (Bool) → Option ρ) : Option ρ :=
  Option.bind g_astrolabelaw5_awake fun (d : Bool) =>
    bif !d then k false
    else
      Option.bind
        (g_vec_Add 2 false (fun (j : Nat) => bif Nat.beq j 1 then x3 else bif Nat.beq j 0 then x0 else x0) (fun (j : Nat) => bif Nat.beq j 1 then x4 else bif Nat.beq j 0 then x1 else x1)
          (fun (j : Nat) => bif Nat.beq j 1 then x5 else bif Nat.beq j 0 then x2 else x2) true)
        fun (d : Int × Int × Int × Bool) =>
        Option.bind (g_astrolaberef4_Add x0 x1 x2 x3 x4 x5 false) fun (d_1 : Int × Int × Int × Bool) =>
          bif !(d.1 == d_1.1 && (d.2.1 == d_1.2.1 && (d.2.2.1 == d_1.2.2.1 && true))) then k false
          else
            bif !d.2.2.2 == d_1.2.2.2 then k false
            else
              Option.bind (g_vec_Sub x0 x1 x2 x3 x4 x5 false) fun (d : Int × Int × Int × Bool) =>
                Option.bind (g_astrolaberef4_Sub x0 x1 x2 x3 x4 x5 false) fun (d_2 : Int × Int × Int × Bool) =>
                  bif !(d.1 == d_2.1 && (d.2.1 == d_2.2.1 && (d.2.2.1 == d_2.2.2.1 && true))) then k false
                  else
                    bif !d.2.2.2 == d_2.2.2.2 then k false
                    else
                      Option.bind (g_vec_Scale x0 x1 x2 x6 false) fun (d : Int × Int × Int × Bool) =>
                        Option.bind (g_astrolaberef4_Scale x0 x1 x2 x6 false) fun (d_3 : Int × Int × Int × Bool) =>
                          bif !(d.1 == d_3.1 && (d.2.1 == d_3.2.1 && (d.2.2.1 == d_3.2.2.1 && true))) then k false
                          else
                            bif !d.2.2.2 == d_3.2.2.2 then k false
                            else
                              Option.bind (g_vec_Dot x0 x1 x2 x3 x4 x5 false) fun (d : Int × Bool) =>
                                Option.bind
                                  (g___astrolaberef2_Acc__Dot 30 3 3 false (fun (j : Nat) => bif Nat.beq j 2 then x2 else bif Nat.beq j 1 then x1 else bif Nat.beq j 0 then x0 else x0)
                                    (fun (j : Nat) => bif Nat.beq j 2 then x5 else bif Nat.beq j 1 then x4 else bif Nat.beq j 0 then x3 else x3) false false)
                                  fun (d_4 : Int × Bool) =>
                                  bif !(d.1 == d_4.1 && true) then k false
                                  else
                                    bif !d.2 == d_4.2 then k false
                                    else
                                      Option.bind (g_vec_Cross x0 x1 x2 x3 x4 x5 false) fun (d : Int × Int × Int × Bool) =>
                                        Option.bind (g_astrolaberef4_Cross x0 x1 x2 x3 x4 x5 false) fun (d_5 : Int × Int × Int × Bool) =>
                                          bif !(d.1 == d_5.1 && (d.2.1 == d_5.2.1 && (d.2.2.1 == d_5.2.2.1 && true))) then k false
                                          else
                                            bif !d.2.2.2 == d_5.2.2.2 then k false
                                            else
                                              Option.bind (g_vec_Norm x0 x1 x2 false) fun (d : Int × Bool) =>
                                                Option.bind (g_astrolaberef4_Norm x0 x1 x2 false) fun (d_6 : Int × Bool) =>
                                                  bif !(d.1 == d_6.1 && true) then k false
                                                  else
                                                    bif !d.2 == d_6.2 then k false
                                                    else
                                                      Option.bind (g_vec_Sat x0 x1 x2 false) fun (d : Int × Int × Int × Bool) =>
                                                        Option.bind (g_astrolaberef4_Sat x0 x1 x2 false) fun (d_7 : Int × Int × Int × Bool) =>
                                                          bif !(d.1 == d_7.1 && (d.2.1 == d_7.2.1 && (d.2.2.1 == d_7.2.2.1 && true))) then k false
                                                          else bif !d.2.2.2 == d_7.2.2.2 then k false else k true
def f_astrolabelaw5_VecSays (x0 : Int) (x1 : Int) (x2 : Int) (x3 : Int) (x4 : Int) (x5 : Int) (x6 : Int) : Option (Bool) := K_astrolabelaw5_VecSays f_astrolabelaw5_awake f_vec_Add f_astrolaberef4_Add f_vec_Sub f_astrolaberef4_Sub f_vec_Scale f_astrolaberef4_Scale f_vec_Dot f___astrolaberef2_Acc__Dot f_vec_Cross f_astrolaberef4_Cross f_vec_Norm f_astrolaberef4_Norm f_vec_Sat f_astrolaberef4_Sat  x0 x1 x2 x3 x4 x5 x6 some
section
open Go.Ab.Rdr
def QA_astrolabelaw5_VecSays := ((pair (cons (ar (ra (cons (gc (cf (fi .i64 hole))) (cons (gc (cf (fi .i64 hole))) (cons (gc (cf (fi .i64 hole))) nil))))) (cons (ar (ra (cons (gc (cf (fi .i64 hole))) (cons (gc (cf (fi .i64 hole))) (cons (gc (cf (fi .i64 hole))) nil))))) (cons (ar (rc (cf (fi .i64 hole)))) nil))) nil) : Rdr (List AV × List Blk) _)
end
def F_astrolabelaw5_VecSays (f : (Int) → (Int) → (Int) → (Int) → (Int) → (Int) → (Int) → Option (Bool)) : Sem1 := fun args h => match (QA_astrolabelaw5_VecSays).rd (args, h) with
  | some b => .opt (f b.1.1.1 b.1.1.2.1 b.1.1.2.2.1 b.1.2.1.1 b.1.2.1.2.1 b.1.2.1.2.2.1 b.1.2.2.1) fun (d : Bool) => .leaf (Res.mk (AV.r (RV.c (CV.f (FV.b d)))) [] [])
  | none => .fail
theorem d_astrolabelaw5_VecSays (g_astrolabelaw5_awake : Option Bool) (g_vec_Add : Nat → Bool → (Nat → Int) → (Nat → Int) → (Nat → Int) → Bool → Option (Int × Int × Int × Bool)) (g_astrolaberef4_Add : Int → Int → Int → Int → Int → Int → Bool → Option (Int × Int × Int × Bool)) (g_vec_Sub : Int → Int → Int → Int → Int → Int → Bool → Option (Int × Int × Int × Bool)) (g_astrolaberef4_Sub : Int → Int → Int → Int → Int → Int → Bool → Option (Int × Int × Int × Bool)) (g_vec_Scale : Int → Int → Int → Int → Bool → Option (Int × Int × Int × Bool)) (g_astrolaberef4_Scale : Int → Int → Int → Int → Bool → Option (Int × Int × Int × Bool)) (g_vec_Dot : Int → Int → Int → Int → Int → Int → Bool → Option (Int × Bool)) (g___astrolaberef2_Acc__Dot : Int → Nat → Nat → Bool → (Nat → Int) → (Nat → Int) → Bool → Bool → Option (Int × Bool)) (g_vec_Cross : Int → Int → Int → Int → Int → Int → Bool → Option (Int × Int × Int × Bool)) (g_astrolaberef4_Cross : Int → Int → Int → Int → Int → Int → Bool → Option (Int × Int × Int × Bool)) (g_vec_Norm : Int → Int → Int → Bool → Option (Int × Bool)) (g_astrolaberef4_Norm : Int → Int → Int → Bool → Option (Int × Bool)) (g_vec_Sat : Int → Int → Int → Bool → Option (Int × Int × Int × Bool)) (g_astrolaberef4_Sat : Int → Int → Int → Bool → Option (Int × Int × Int × Bool))  (x0 : Int) (x1 : Int) (x2 : Int) (x3 : Int) (x4 : Int) (x5 : Int) (x6 : Int) : den Try.prog (envOf [(30, F_astrolabelaw5_awake g_astrolabelaw5_awake), (31, F_vec_Add g_vec_Add), (33, F_astrolaberef4_Add g_astrolaberef4_Add), (34, F_vec_Sub g_vec_Sub), (35, F_astrolaberef4_Sub g_astrolaberef4_Sub), (36, F_vec_Scale g_vec_Scale), (37, F_astrolaberef4_Scale g_astrolaberef4_Scale), (38, F_vec_Dot g_vec_Dot), (39, F___astrolaberef2_Acc__Dot g___astrolaberef2_Acc__Dot), (40, F_vec_Cross g_vec_Cross), (41, F_astrolaberef4_Cross g_astrolaberef4_Cross), (42, F_vec_Norm g_vec_Norm), (43, F_astrolaberef4_Norm g_astrolaberef4_Norm), (32, F_vec_Sat g_vec_Sat), (44, F_astrolaberef4_Sat g_astrolaberef4_Sat)]) ⟨[⟨6, [0, 1, 5, 6, 10, 11, 12, 13, 14, 15, 16, 17, 18, 19, 20, 21, 22, 23, 24, 25, 26, 27, 28, 29, 30, 31, 32, 33, 34, 35, 36, 37, 38, 39, 40, 41, 42, 43, 44, 45, 46, 47, 48, 49, 50, 51, 52, 53, 54, 55, 56, 57, 58, 59, 60, 61, 62, 63, 64, 65, 66, 67, 68, 69, 70, 71, 72, 73, 74, 75, 76, 77, 78, 79, 80, 81, 82, 83, 84, 85, 86, 87, 88, 89, 90, 91, 92, 93, 94, 95, 96, 97, 98, 99, 100, 101, 102, 103, 114], []⟩], [], [], [], (some ⟨0, [0, 1, 2, 3, 4, 5, 7, 8, 9, 10, 11, 12, 13, 14, 15, 16, 17, 18, 19, 20, 21, 22, 23, 24, 25, 26, 27, 28, 29, 30, 31, 32, 33, 34, 35, 36, 37, 38, 39, 40, 41, 42, 43, 44, 45, 46, 47, 48, 49, 50, 51, 52, 53, 54, 55, 56, 57, 58, 59, 60, 61, 62, 63, 64, 65, 66, 67, 68, 69, 70, 71, 72, 73, 74, 75, 76, 77, 78, 79, 80, 81, 82, 83, 84, 85, 86, 87, 88, 89, 90, 91, 92, 93, 94, 95, 96, 97, 98, 99, 100, 101, 102, 103, 104, 105, 106, 107, 108, 109, 110, 111, 112, 113, 114], []⟩)⟩ 200 10 [.r (.agg [.c (.f (.i .i64 x0)), .c (.f (.i .i64 x1)), .c (.f (.i .i64 x2))]), .r (.agg [.c (.f (.i .i64 x3)), .c (.f (.i .i64 x4)), .c (.f (.i .i64 x5))]), .r (.c (.f (.i .i64 x6)))] [] =
    K_astrolabelaw5_VecSays g_astrolabelaw5_awake g_vec_Add g_astrolaberef4_Add g_vec_Sub g_astrolaberef4_Sub g_vec_Scale g_astrolaberef4_Scale g_vec_Dot g___astrolaberef2_Acc__Dot g_vec_Cross g_astrolaberef4_Cross g_vec_Norm g_astrolaberef4_Norm g_vec_Sat g_astrolaberef4_Sat  x0 x1 x2 x3 x4 x5 x6 (fun (d : Bool) => some (Res.mk (AV.r (RV.c (CV.f (FV.b d)))) [] [])) := by kernel_rfl
theorem m_astrolabelaw5_VecSays {ρ σ : Type} (q : ρ → Option σ) (g_astrolabelaw5_awake : Option Bool) (g_vec_Add : Nat → Bool → (Nat → Int) → (Nat → Int) → (Nat → Int) → Bool → Option (Int × Int × Int × Bool)) (g_astrolaberef4_Add : Int → Int → Int → Int → Int → Int → Bool → Option (Int × Int × Int × Bool)) (g_vec_Sub : Int → Int → Int → Int → Int → Int → Bool → Option (Int × Int × Int × Bool)) (g_astrolaberef4_Sub : Int → Int → Int → Int → Int → Int → Bool → Option (Int × Int × Int × Bool)) (g_vec_Scale : Int → Int → Int → Int → Bool → Option (Int × Int × Int × Bool)) (g_astrolaberef4_Scale : Int → Int → Int → Int → Bool → Option (Int × Int × Int × Bool)) (g_vec_Dot : Int → Int → Int → Int → Int → Int → Bool → Option (Int × Bool)) (g___astrolaberef2_Acc__Dot : Int → Nat → Nat → Bool → (Nat → Int) → (Nat → Int) → Bool → Bool → Option (Int × Bool)) (g_vec_Cross : Int → Int → Int → Int → Int → Int → Bool → Option (Int × Int × Int × Bool)) (g_astrolaberef4_Cross : Int → Int → Int → Int → Int → Int → Bool → Option (Int × Int × Int × Bool)) (g_vec_Norm : Int → Int → Int → Bool → Option (Int × Bool)) (g_astrolaberef4_Norm : Int → Int → Int → Bool → Option (Int × Bool)) (g_vec_Sat : Int → Int → Int → Bool → Option (Int × Int × Int × Bool)) (g_astrolaberef4_Sat : Int → Int → Int → Bool → Option (Int × Int × Int × Bool))   (x0 : Int) (x1 : Int) (x2 : Int) (x3 : Int) (x4 : Int) (x5 : Int) (x6 : Int) (k : (Bool) → Option ρ) : (K_astrolabelaw5_VecSays g_astrolabelaw5_awake g_vec_Add g_astrolaberef4_Add g_vec_Sub g_astrolaberef4_Sub g_vec_Scale g_astrolaberef4_Scale g_vec_Dot g___astrolaberef2_Acc__Dot g_vec_Cross g_astrolaberef4_Cross g_vec_Norm g_astrolaberef4_Norm g_vec_Sat g_astrolaberef4_Sat  x0 x1 x2 x3 x4 x5 x6 k).bind q = K_astrolabelaw5_VecSays g_astrolabelaw5_awake g_vec_Add g_astrolaberef4_Add g_vec_Sub g_astrolaberef4_Sub g_vec_Scale g_astrolaberef4_Scale g_vec_Dot g___astrolaberef2_Acc__Dot g_vec_Cross g_astrolaberef4_Cross g_vec_Norm g_astrolaberef4_Norm g_vec_Sat g_astrolaberef4_Sat  x0 x1 x2 x3 x4 x5 x6 (fun d => (k d).bind q) := by
  simp only [K_astrolabelaw5_VecSays, bnd_cond, bnd_bind, bnd_none, bnd_sum]
theorem qa_astrolabelaw5_VecSays : ∀ b, (QA_astrolabelaw5_VecSays).em b = ([.r (.agg [.c (.f (.i .i64 b.1.1.1)), .c (.f (.i .i64 b.1.1.2.1)), .c (.f (.i .i64 b.1.1.2.2.1))]), .r (.agg [.c (.f (.i .i64 b.1.2.1.1)), .c (.f (.i .i64 b.1.2.1.2.1)), .c (.f (.i .i64 b.1.2.1.2.2.1))]), .r (.c (.f (.i .i64 b.1.2.2.1)))], []) := fun b => by kernel_rfl
theorem e_astrolabelaw5_VecSays {f : (Int) → (Int) → (Int) → (Int) → (Int) → (Int) → (Int) → Option (Bool)} {args : List AV} {h : List Blk} {r : Res} (hr : (F_astrolabelaw5_VecSays f args h).eval = some r) : ∃ x0 x1 x2 x3 x4 x5 x6, args = [.r (.agg [.c (.f (.i .i64 x0)), .c (.f (.i .i64 x1)), .c (.f (.i .i64 x2))]), .r (.agg [.c (.f (.i .i64 x3)), .c (.f (.i .i64 x4)), .c (.f (.i .i64 x5))]), .r (.c (.f (.i .i64 x6)))] ∧ h = [] ∧ (f x0 x1 x2 x3 x4 x5 x6).bind (fun (d : Bool) => some (Res.mk (AV.r (RV.c (CV.f (FV.b d)))) [] [])) = some r := by
  unfold F_astrolabelaw5_VecSays at hr
  split at hr
  · rename_i b hb
    have e := ((QA_astrolabelaw5_VecSays).ok _ _ hb).trans (qa_astrolabelaw5_VecSays b)
    rw [opt_eval2] at hr
    exact ⟨b.1.1.1, b.1.1.2.1, b.1.1.2.2.1, b.1.2.1.1, b.1.2.1.2.1, b.1.2.1.2.2.1, b.1.2.2.1, (Prod.mk.inj e).1, (Prod.mk.inj e).2, hr⟩
  · cases hr
theorem n_astrolabelaw5_VecSays {σ : Type} (q : (Bool) → Option σ) (x0 : Int) (x1 : Int) (x2 : Int) (x3 : Int) (x4 : Int) (x5 : Int) (x6 : Int) : (f_astrolabelaw5_VecSays x0 x1 x2 x3 x4 x5 x6).bind q = K_astrolabelaw5_VecSays f_astrolabelaw5_awake f_vec_Add f_astrolaberef4_Add f_vec_Sub f_astrolaberef4_Sub f_vec_Scale f_astrolaberef4_Scale f_vec_Dot f___astrolaberef2_Acc__Dot f_vec_Cross f_astrolaberef4_Cross f_vec_Norm f_astrolaberef4_Norm f_vec_Sat f_astrolaberef4_Sat  x0 x1 x2 x3 x4 x5 x6 q := by
  unfold f_astrolabelaw5_VecSays
  exact m_astrolabelaw5_VecSays q f_astrolabelaw5_awake f_vec_Add f_astrolaberef4_Add f_vec_Sub f_astrolaberef4_Sub f_vec_Scale f_astrolaberef4_Scale f_vec_Dot f___astrolaberef2_Acc__Dot f_vec_Cross f_astrolaberef4_Cross f_vec_Norm f_astrolaberef4_Norm f_vec_Sat f_astrolaberef4_Sat   x0 x1 x2 x3 x4 x5 x6 some
theorem s_astrolabelaw5_VecSays : Sound Try.prog 10 (F_astrolabelaw5_VecSays f_astrolabelaw5_VecSays) :=
  (inl_sums (l := [(30, F_astrolabelaw5_awake f_astrolabelaw5_awake), (31, F_vec_Add f_vec_Add), (33, F_astrolaberef4_Add f_astrolaberef4_Add), (34, F_vec_Sub f_vec_Sub), (35, F_astrolaberef4_Sub f_astrolaberef4_Sub), (36, F_vec_Scale f_vec_Scale), (37, F_astrolaberef4_Scale f_astrolaberef4_Scale), (38, F_vec_Dot f_vec_Dot), (39, F___astrolaberef2_Acc__Dot f___astrolaberef2_Acc__Dot), (40, F_vec_Cross f_vec_Cross), (41, F_astrolaberef4_Cross f_astrolaberef4_Cross), (42, F_vec_Norm f_vec_Norm), (43, F_astrolaberef4_Norm f_astrolaberef4_Norm), (32, F_vec_Sat f_vec_Sat), (44, F_astrolaberef4_Sat f_astrolaberef4_Sat)]) (.cons s_astrolabelaw5_awake (.cons s_vec_Add (.cons s_astrolaberef4_Add (.cons s_vec_Sub (.cons s_astrolaberef4_Sub (.cons s_vec_Scale (.cons s_astrolaberef4_Scale (.cons s_vec_Dot (.cons s___astrolaberef2_Acc__Dot (.cons s_vec_Cross (.cons s_astrolaberef4_Cross (.cons s_vec_Norm (.cons s_astrolaberef4_Norm (.cons s_vec_Sat (.cons s_astrolaberef4_Sat (.nil _)))))))))))))))) mixed (hs := ⟨[⟨6, [0, 1, 5, 6, 10, 11, 12, 13, 14, 15, 16, 17, 18, 19, 20, 21, 22, 23, 24, 25, 26, 27, 28, 29, 30, 31, 32, 33, 34, 35, 36, 37, 38, 39, 40, 41, 42, 43, 44, 45, 46, 47, 48, 49, 50, 51, 52, 53, 54, 55, 56, 57, 58, 59, 60, 61, 62, 63, 64, 65, 66, 67, 68, 69, 70, 71, 72, 73, 74, 75, 76, 77, 78, 79, 80, 81, 82, 83, 84, 85, 86, 87, 88, 89, 90, 91, 92, 93, 94, 95, 96, 97, 98, 99, 100, 101, 102, 103, 114], []⟩], [], [], [], (some ⟨0, [0, 1, 2, 3, 4, 5, 7, 8, 9, 10, 11, 12, 13, 14, 15, 16, 17, 18, 19, 20, 21, 22, 23, 24, 25, 26, 27, 28, 29, 30, 31, 32, 33, 34, 35, 36, 37, 38, 39, 40, 41, 42, 43, 44, 45, 46, 47, 48, 49, 50, 51, 52, 53, 54, 55, 56, 57, 58, 59, 60, 61, 62, 63, 64, 65, 66, 67, 68, 69, 70, 71, 72, 73, 74, 75, 76, 77, 78, 79, 80, 81, 82, 83, 84, 85, 86, 87, 88, 89, 90, 91, 92, 93, 94, 95, 96, 97, 98, 99, 100, 101, 102, 103, 104, 105, 106, 107, 108, 109, 110, 111, 112, 113, 114], []⟩)⟩) (lf := 200) (Sums.by (l := [loopIn Try.prog 10 6]) (lj := []) (by kernel_rfl) ⟨SumOK.no (by kernel_rfl), trivial⟩ (by kernel_rfl) trivial) (by kernel_rfl)).by (F := F_astrolabelaw5_VecSays f_astrolabelaw5_VecSays) fun args b r hr => by
  obtain ⟨x0, x1, x2, x3, x4, x5, x6, rfl, rfl, hr1⟩ := e_astrolabelaw5_VecSays hr
  exact inl_eval ((d_astrolabelaw5_VecSays f_astrolabelaw5_awake f_vec_Add f_astrolaberef4_Add f_vec_Sub f_astrolaberef4_Sub f_vec_Scale f_astrolaberef4_Scale f_vec_Dot f___astrolaberef2_Acc__Dot f_vec_Cross f_astrolaberef4_Cross f_vec_Norm f_astrolaberef4_Norm f_vec_Sat f_astrolaberef4_Sat  x0 x1 x2 x3 x4 x5 x6).trans ((n_astrolabelaw5_VecSays (fun (d : Bool) => some (Res.mk (AV.r (RV.c (CV.f (FV.b d)))) [] [])) x0 x1 x2 x3 x4 x5 x6).symm.trans hr1))

end Go.Proofs.Ythbnojedlbeglaa
