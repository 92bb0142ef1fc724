/-
  Contracts by plain functions: vec.Cross, astrolabelaw5.awake, astrolabelaw5.VecLaws, astrolabelaw5.VecSides
-/
import Derived.Test.YthbnojedlbeglaaV1
import Derived.Test.YthbnojedlbeglaaVA
set_option maxRecDepth 100000
set_option maxHeartbeats 4000000
set_option linter.unusedVariables false
namespace Go.Proofs.Ythbnojedlbeglaa
open Go.Ab
def K_vec_Cross {ρ : Type} (g_vec_Sat : Int → Int → Int → Bool → Option (Int × Int × Int × Bool)) (g___fx_Acc__Dot : Int → Nat → Nat → Bool → (Nat → Int) → (Nat → Int) → Bool → Bool → Option (Int × Bool))  (x0 : Int) (x1 : Int) (x2 : Int) (x3 : Int) (x4 : Int) (x5 : Int) (x6 : Bool) (k : (Int × Int × Int × Bool) → Option ρ) : Option ρ :=
  Option.bind (g_vec_Sat x0 x1 x2 x6) fun (d : Int × Int × Int × Bool) =>
    Option.bind (g_vec_Sat x3 x4 x5 d.2.2.2) fun (d_1 : Int × Int × Int × Bool) =>
      Option.bind
        (g___fx_Acc__Dot 30 2 2 d_1.2.2.2 (fun (j : Nat) => bif Nat.beq j 1 then IntKind.wrap IntKind.i64 (0 - d.2.2.1) else bif Nat.beq j 0 then d.2.1 else d.2.1)
          (fun (j : Nat) => bif Nat.beq j 1 then d_1.2.1 else bif Nat.beq j 0 then d_1.2.2.1 else d_1.2.2.1) true true)
        fun (d_2 : Int × Bool) =>
        Option.bind
          (g___fx_Acc__Dot 30 2 2 d_2.2 (fun (j : Nat) => bif Nat.beq j 1 then IntKind.wrap IntKind.i64 (0 - d.1) else bif Nat.beq j 0 then d.2.2.1 else d.2.2.1)
            (fun (j : Nat) => bif Nat.beq j 1 then d_1.2.2.1 else bif Nat.beq j 0 then d_1.1 else d_1.1) true true)
          fun (d_3 : Int × Bool) =>
          Option.bind
            (g___fx_Acc__Dot 30 2 2 d_3.2 (fun (j : Nat) => bif Nat.beq j 1 then IntKind.wrap IntKind.i64 (0 - d.2.1) else bif Nat.beq j 0 then d.1 else d.1)
              (fun (j : Nat) => bif Nat.beq j 1 then d_1.1 else bif Nat.beq j 0 then d_1.2.1 else d_1.2.1) true true)
            fun (d : Int × Bool) => k (d_2.1, d_3.1, d.1, d.2)
def f_vec_Cross (x0 : Int) (x1 : Int) (x2 : Int) (x3 : Int) (x4 : Int) (x5 : Int) (x6 : Bool) : Option (Int × Int × Int × Bool) := K_vec_Cross f_vec_Sat f___fx_Acc__Dot  x0 x1 x2 x3 x4 x5 x6 some
section
open Go.Ab.Rdr
def QA_vec_Cross := ((pair (cons (ar (rc (cptr (nat 0) (ok' (nat 0)) (nat 1)))) (cons (ar (ra (cons (gc (cf (fi .i64 hole))) (cons (gc (cf (fi .i64 hole))) (cons (gc (cf (fi .i64 hole))) nil))))) (cons (ar (ra (cons (gc (cf (fi .i64 hole))) (cons (gc (cf (fi .i64 hole))) (cons (gc (cf (fi .i64 hole))) nil))))) nil))) (cons (cons (gc (cf (fb hole))) nil) nil)) : Rdr (List AV × List Blk) _)
end
def F_vec_Cross (f : (Int) → (Int) → (Int) → (Int) → (Int) → (Int) → (Bool) → Option (Int × Int × Int × Bool)) : Sem1 := fun args h => match (QA_vec_Cross).rd (args, h) with
  | some b => .opt (f b.1.2.1.1 b.1.2.1.2.1 b.1.2.1.2.2.1 b.1.2.2.1.1 b.1.2.2.1.2.1 b.1.2.2.1.2.2.1 b.2.1.1) fun (d : Int × Int × Int × Bool) => .leaf (Res.mk (AV.r (RV.agg [Sg.c (CV.f (FV.i IntKind.i64 d.1)), Sg.c (CV.f (FV.i IntKind.i64 d.2.1)), Sg.c (CV.f (FV.i IntKind.i64 d.2.2.1))])) [Ch.set [Sg.c (CV.f (FV.b d.2.2.2))]] [])
  | none => .fail
theorem d_vec_Cross (g_vec_Sat : Int → Int → Int → Bool → Option (Int × Int × Int × Bool)) (g___fx_Acc__Dot : Int → Nat → Nat → Bool → (Nat → Int) → (Nat → Int) → Bool → Bool → Option (Int × Bool))  (x0 : Int) (x1 : Int) (x2 : Int) (x3 : Int) (x4 : Int) (x5 : Int) (x6 : Bool) : den Try.prog (envOf [(32, F_vec_Sat g_vec_Sat), (57, F___fx_Acc__Dot g___fx_Acc__Dot)]) ⟨[⟨4, [1, 2, 3, 8, 9, 10, 11, 12, 13, 14, 15, 16, 18, 19, 20, 21, 22, 23, 24, 25, 26, 27, 28, 29, 30, 31, 32, 33, 34, 35, 36, 37, 38, 39, 40, 41, 42, 43, 44, 45, 46], []⟩], [], [], [], (some ⟨0, [0, 1, 2, 3, 4, 5, 7, 8, 9, 10, 11, 12, 13, 14, 15, 16, 17, 18, 19, 20, 21, 22, 23, 24, 25, 26, 27, 28, 29, 30, 31, 32, 33, 34, 35, 36, 37, 38, 39, 40, 41, 42, 43, 44, 45, 46], []⟩)⟩ 200 40 [.r (.c (.ptr 0 (.k 0) 1)), .r (.agg [.c (.f (.i .i64 x0)), .c (.f (.i .i64 x1)), .c (.f (.i .i64 x2))]), .r (.agg [.c (.f (.i .i64 x3)), .c (.f (.i .i64 x4)), .c (.f (.i .i64 x5))])] [[.c (.f (.b x6))]] =
    K_vec_Cross g_vec_Sat g___fx_Acc__Dot  x0 x1 x2 x3 x4 x5 x6 (fun (d : Int × Int × Int × Bool) => some (Res.mk (AV.r (RV.agg [Sg.c (CV.f (FV.i IntKind.i64 d.1)), Sg.c (CV.f (FV.i IntKind.i64 d.2.1)), Sg.c (CV.f (FV.i IntKind.i64 d.2.2.1))])) [Ch.set [Sg.c (CV.f (FV.b d.2.2.2))]] [])) := by kernel_rfl
theorem m_vec_Cross {ρ σ : Type} (q : ρ → Option σ) (g_vec_Sat : Int → Int → Int → Bool → Option (Int × Int × Int × Bool)) (g___fx_Acc__Dot : Int → Nat → Nat → Bool → (Nat → Int) → (Nat → Int) → Bool → Bool → Option (Int × Bool))   (x0 : Int) (x1 : Int) (x2 : Int) (x3 : Int) (x4 : Int) (x5 : Int) (x6 : Bool) (k : (Int × Int × Int × Bool) → Option ρ) : (K_vec_Cross g_vec_Sat g___fx_Acc__Dot  x0 x1 x2 x3 x4 x5 x6 k).bind q = K_vec_Cross g_vec_Sat g___fx_Acc__Dot  x0 x1 x2 x3 x4 x5 x6 (fun d => (k d).bind q) := by
  simp only [K_vec_Cross, bnd_cond, bnd_bind, bnd_none, bnd_sum]
theorem qa_vec_Cross : ∀ b, (QA_vec_Cross).em b = ([.r (.c (.ptr 0 (.k 0) 1)), .r (.agg [.c (.f (.i .i64 b.1.2.1.1)), .c (.f (.i .i64 b.1.2.1.2.1)), .c (.f (.i .i64 b.1.2.1.2.2.1))]), .r (.agg [.c (.f (.i .i64 b.1.2.2.1.1)), .c (.f (.i .i64 b.1.2.2.1.2.1)), .c (.f (.i .i64 b.1.2.2.1.2.2.1))])], [[.c (.f (.b b.2.1.1))]]) := fun b => by kernel_rfl
theorem e_vec_Cross {f : (Int) → (Int) → (Int) → (Int) → (Int) → (Int) → (Bool) → Option (Int × Int × Int × Bool)} {args : List AV} {h : List Blk} {r : Res} (hr : (F_vec_Cross f args h).eval = some r) : ∃ x0 x1 x2 x3 x4 x5 x6, args = [.r (.c (.ptr 0 (.k 0) 1)), .r (.agg [.c (.f (.i .i64 x0)), .c (.f (.i .i64 x1)), .c (.f (.i .i64 x2))]), .r (.agg [.c (.f (.i .i64 x3)), .c (.f (.i .i64 x4)), .c (.f (.i .i64 x5))])] ∧ h = [[.c (.f (.b x6))]] ∧ (f x0 x1 x2 x3 x4 x5 x6).bind (fun (d : Int × Int × Int × Bool) => some (Res.mk (AV.r (RV.agg [Sg.c (CV.f (FV.i IntKind.i64 d.1)), Sg.c (CV.f (FV.i IntKind.i64 d.2.1)), Sg.c (CV.f (FV.i IntKind.i64 d.2.2.1))])) [Ch.set [Sg.c (CV.f (FV.b d.2.2.2))]] [])) = some r := by
  unfold F_vec_Cross at hr
  split at hr
  · rename_i b hb
    have e := ((QA_vec_Cross).ok _ _ hb).trans (qa_vec_Cross b)
    rw [opt_eval2] at hr
    exact ⟨b.1.2.1.1, b.1.2.1.2.1, b.1.2.1.2.2.1, b.1.2.2.1.1, b.1.2.2.1.2.1, b.1.2.2.1.2.2.1, b.2.1.1, (Prod.mk.inj e).1, (Prod.mk.inj e).2, hr⟩
  · cases hr
theorem n_vec_Cross {σ : Type} (q : (Int × Int × Int × Bool) → Option σ) (x0 : Int) (x1 : Int) (x2 : Int) (x3 : Int) (x4 : Int) (x5 : Int) (x6 : Bool) : (f_vec_Cross x0 x1 x2 x3 x4 x5 x6).bind q = K_vec_Cross f_vec_Sat f___fx_Acc__Dot  x0 x1 x2 x3 x4 x5 x6 q := by
  unfold f_vec_Cross
  exact m_vec_Cross q f_vec_Sat f___fx_Acc__Dot   x0 x1 x2 x3 x4 x5 x6 some
theorem s_vec_Cross : Sound Try.prog 40 (F_vec_Cross f_vec_Cross) :=
  (inl_sums (l := [(32, F_vec_Sat f_vec_Sat), (57, F___fx_Acc__Dot f___fx_Acc__Dot)]) (.cons s_vec_Sat (.cons s___fx_Acc__Dot (.nil _))) mixed (hs := ⟨[⟨4, [1, 2, 3, 8, 9, 10, 11, 12, 13, 14, 15, 16, 18, 19, 20, 21, 22, 23, 24, 25, 26, 27, 28, 29, 30, 31, 32, 33, 34, 35, 36, 37, 38, 39, 40, 41, 42, 43, 44, 45, 46], []⟩], [], [], [], (some ⟨0, [0, 1, 2, 3, 4, 5, 7, 8, 9, 10, 11, 12, 13, 14, 15, 16, 17, 18, 19, 20, 21, 22, 23, 24, 25, 26, 27, 28, 29, 30, 31, 32, 33, 34, 35, 36, 37, 38, 39, 40, 41, 42, 43, 44, 45, 46], []⟩)⟩) (lf := 200) (Sums.by (l := [loopIn Try.prog 40 4]) (lj := []) (by kernel_rfl) ⟨SumOK.no (by kernel_rfl), trivial⟩ (by kernel_rfl) trivial) (by kernel_rfl)).by (F := F_vec_Cross f_vec_Cross) fun args b r hr => by
  obtain ⟨x0, x1, x2, x3, x4, x5, x6, rfl, rfl, hr1⟩ := e_vec_Cross hr
  exact inl_eval ((d_vec_Cross f_vec_Sat f___fx_Acc__Dot  x0 x1 x2 x3 x4 x5 x6).trans ((n_vec_Cross (fun (d : Int × Int × Int × Bool) => some (Res.mk (AV.r (RV.agg [Sg.c (CV.f (FV.i IntKind.i64 d.1)), Sg.c (CV.f (FV.i IntKind.i64 d.2.1)), Sg.c (CV.f (FV.i IntKind.i64 d.2.2.1))])) [Ch.set [Sg.c (CV.f (FV.b d.2.2.2))]] [])) x0 x1 x2 x3 x4 x5 x6).symm.trans hr1))

def K_astrolabelaw5_awake {ρ : Type} (g_vec_Cross : Int → Int → Int → Int → Int → Int → Bool → Option (Int × Int × Int × Bool)) (g_vec_Norm : Int → Int → Int → Bool → Option (Int × Bool)) (g_vec_Add : Nat → Bool → (Nat → Int) → (Nat → Int) → (Nat → Int) → Bool → Option (Int × Int × Int × Bool)) (g_vec_Sub : Int → Int → Int → Int → Int → Int → Bool → Option (Int × Int × Int × Bool)) (g_vec_Scale : Int → Int → Int → Int → Bool → Option (Int × Int × Int × Bool)) (g_vec_Dot : Int → Int → Int → Int → Int → Int → Bool → Option (Int × Bool)) (g_vec_Sat : Int → Int → Int → Bool → Option (Int × Int × Int × Bool))   (k : (Bool) → Option ρ) : Option ρ :=
  Option.bind (g_vec_Cross 1073741824 0 0 0 1073741824 0 false) fun (d : Int × Int × Int × Bool) =>
    bif d.1 == 0 && (d.2.1 == 0 && (d.2.2.1 == 1073741824 && true)) then
      Option.bind (g_vec_Norm 3221225472 4294967296 0 d.2.2.2) fun (d : Int × Bool) =>
        bif d.1 == 5368709120 then
          Option.bind
            (g_vec_Add 3 d.2 (fun (j : Nat) => bif Nat.beq j 2 then 0 else bif Nat.beq j 1 then 2 else bif Nat.beq j 0 then 1 else 1)
              (fun (j : Nat) => bif Nat.beq j 2 then 3 else bif Nat.beq j 1 then 0 else bif Nat.beq j 0 then 0 else 0)
              (fun (j : Nat) => bif Nat.beq j 2 then 0 else bif Nat.beq j 1 then 0 else bif Nat.beq j 0 then 0 else 0) true)
            fun (d : Int × Int × Int × Bool) =>
            bif d.1 == 3 && (d.2.1 == 3 && (d.2.2.1 == 0 && true)) then
              Option.bind (g_vec_Sub 1 0 0 2 0 0 d.2.2.2) fun (d : Int × Int × Int × Bool) =>
                bif d.1 == -1 && (d.2.1 == 0 && (d.2.2.1 == 0 && true)) then
                  Option.bind (g_vec_Scale 4 6 0 536870912 d.2.2.2) fun (d : Int × Int × Int × Bool) =>
                    bif d.1 == 2 && (d.2.1 == 3 && (d.2.2.1 == 0 && true)) then
                      Option.bind (g_vec_Dot 1073741824 0 0 7 0 0 d.2.2.2) fun (d : Int × Bool) =>
                        bif d.1 == 7 then
                          Option.bind (g_vec_Sat 5 0 0 d.2) fun (d : Int × Int × Int × Bool) => bif d.1 == 5 && (d.2.1 == 0 && (d.2.2.1 == 0 && true)) then k !d.2.2.2 else k false
                        else k false
                    else k false
                else k false
            else k false
        else k false
    else k false
def f_astrolabelaw5_awake  : Option (Bool) := K_astrolabelaw5_awake f_vec_Cross f_vec_Norm f_vec_Add f_vec_Sub f_vec_Scale f_vec_Dot f_vec_Sat   some
section
open Go.Ab.Rdr
def QA_astrolabelaw5_awake := ((pair nil nil) : Rdr (List AV × List Blk) _)
end
def F_astrolabelaw5_awake (f : Option (Bool)) : Sem1 := fun args h => match (QA_astrolabelaw5_awake).rd (args, h) with
  | some b => .opt (f ) fun (d : Bool) => .leaf (Res.mk (AV.r (RV.c (CV.f (FV.b d)))) [] [])
  | none => .fail
theorem d_astrolabelaw5_awake (g_vec_Cross : Int → Int → Int → Int → Int → Int → Bool → Option (Int × Int × Int × Bool)) (g_vec_Norm : Int → Int → Int → Bool → Option (Int × Bool)) (g_vec_Add : Nat → Bool → (Nat → Int) → (Nat → Int) → (Nat → Int) → Bool → Option (Int × Int × Int × Bool)) (g_vec_Sub : Int → Int → Int → Int → Int → Int → Bool → Option (Int × Int × Int × Bool)) (g_vec_Scale : Int → Int → Int → Int → Bool → Option (Int × Int × Int × Bool)) (g_vec_Dot : Int → Int → Int → Int → Int → Int → Bool → Option (Int × Bool)) (g_vec_Sat : Int → Int → Int → Bool → Option (Int × Int × Int × Bool))   : den Try.prog (envOf [(40, F_vec_Cross g_vec_Cross), (42, F_vec_Norm g_vec_Norm), (31, F_vec_Add g_vec_Add), (34, F_vec_Sub g_vec_Sub), (36, F_vec_Scale g_vec_Scale), (38, F_vec_Dot g_vec_Dot), (32, F_vec_Sat g_vec_Sat)]) ⟨[], [], [], [], none⟩ 200 30 [] [] =
    K_astrolabelaw5_awake g_vec_Cross g_vec_Norm g_vec_Add g_vec_Sub g_vec_Scale g_vec_Dot g_vec_Sat   (fun (d : Bool) => some (Res.mk (AV.r (RV.c (CV.f (FV.b d)))) [] [])) := by kernel_rfl
theorem m_astrolabelaw5_awake {ρ σ : Type} (q : ρ → Option σ) (g_vec_Cross : Int → Int → Int → Int → Int → Int → Bool → Option (Int × Int × Int × Bool)) (g_vec_Norm : Int → Int → Int → Bool → Option (Int × Bool)) (g_vec_Add : Nat → Bool → (Nat → Int) → (Nat → Int) → (Nat → Int) → Bool → Option (Int × Int × Int × Bool)) (g_vec_Sub : Int → Int → Int → Int → Int → Int → Bool → Option (Int × Int × Int × Bool)) (g_vec_Scale : Int → Int → Int → Int → Bool → Option (Int × Int × Int × Bool)) (g_vec_Dot : Int → Int → Int → Int → Int → Int → Bool → Option (Int × Bool)) (g_vec_Sat : Int → Int → Int → Bool → Option (Int × Int × Int × Bool))    (k : (Bool) → Option ρ) : (K_astrolabelaw5_awake g_vec_Cross g_vec_Norm g_vec_Add g_vec_Sub g_vec_Scale g_vec_Dot g_vec_Sat   k).bind q = K_astrolabelaw5_awake g_vec_Cross g_vec_Norm g_vec_Add g_vec_Sub g_vec_Scale g_vec_Dot g_vec_Sat   (fun d => (k d).bind q) := by
  simp only [K_astrolabelaw5_awake, bnd_cond, bnd_bind, bnd_none, bnd_sum]
theorem qa_astrolabelaw5_awake : ∀ b, (QA_astrolabelaw5_awake).em b = ([], []) := fun b => by kernel_rfl
theorem e_astrolabelaw5_awake {f : Option (Bool)} {args : List AV} {h : List Blk} {r : Res} (hr : (F_astrolabelaw5_awake f args h).eval = some r) : args = [] ∧ h = [] ∧ (f ).bind (fun (d : Bool) => some (Res.mk (AV.r (RV.c (CV.f (FV.b d)))) [] [])) = some r := by
  unfold F_astrolabelaw5_awake at hr
  split at hr
  · rename_i b hb
    have e := ((QA_astrolabelaw5_awake).ok _ _ hb).trans (qa_astrolabelaw5_awake b)
    rw [opt_eval2] at hr
    exact ⟨(Prod.mk.inj e).1, (Prod.mk.inj e).2, hr⟩
  · cases hr
theorem n_astrolabelaw5_awake {σ : Type} (q : (Bool) → Option σ)  : (f_astrolabelaw5_awake ).bind q = K_astrolabelaw5_awake f_vec_Cross f_vec_Norm f_vec_Add f_vec_Sub f_vec_Scale f_vec_Dot f_vec_Sat   q := by
  unfold f_astrolabelaw5_awake
  exact m_astrolabelaw5_awake q f_vec_Cross f_vec_Norm f_vec_Add f_vec_Sub f_vec_Scale f_vec_Dot f_vec_Sat    some
theorem s_astrolabelaw5_awake : Sound Try.prog 30 (F_astrolabelaw5_awake f_astrolabelaw5_awake) :=
  (inl_sound (l := [(40, F_vec_Cross f_vec_Cross), (42, F_vec_Norm f_vec_Norm), (31, F_vec_Add f_vec_Add), (34, F_vec_Sub f_vec_Sub), (36, F_vec_Scale f_vec_Scale), (38, F_vec_Dot f_vec_Dot), (32, F_vec_Sat f_vec_Sat)]) (.cons s_vec_Cross (.cons s_vec_Norm (.cons s_vec_Add (.cons s_vec_Sub (.cons s_vec_Scale (.cons s_vec_Dot (.cons s_vec_Sat (.nil _)))))))) mixed [] [] 200 (by kernel_rfl)).by (F := F_astrolabelaw5_awake f_astrolabelaw5_awake) fun args b r hr => by
  obtain ⟨rfl, rfl, hr1⟩ := e_astrolabelaw5_awake hr
  exact inl_eval ((d_astrolabelaw5_awake f_vec_Cross f_vec_Norm f_vec_Add f_vec_Sub f_vec_Scale f_vec_Dot f_vec_Sat  ).trans ((n_astrolabelaw5_awake (fun (d : Bool) => some (Res.mk (AV.r (RV.c (CV.f (FV.b d)))) [] [])) ).symm.trans hr1))

def K_astrolabelaw5_VecLaws {ρ : Type} (g_astrolabelaw5_awake : Option Bool) (g_vec_Cross : Int → Int → Int → Int → Int → Int → Bool → Option (Int × Int × Int × Bool)) (g_vec_Dot : Int → Int → Int → Int → Int → Int → Bool → Option (Int × Bool))  (x0 : Int) (x1 : Int) (x2 : Int) (x3 : Int) (x4 : Int) (x5 : Int) (k : (Bool) → Option ρ) : Option ρ :=
  Option.bind g_astrolabelaw5_awake fun (d : Bool) =>
    bif !d then k false
    else
      bif decide (x0 < -1099511627776) then k true
      else
        bif decide (x0 > 1099511627776) then k true
        else
          bif decide (x3 < -1099511627776) then k true
          else
            bif decide (x3 > 1099511627776) then k true
            else
              bif decide (x1 < -1099511627776) then k true
              else
                bif decide (x1 > 1099511627776) then k true
                else
                  bif decide (x4 < -1099511627776) then k true
                  else
                    bif decide (x4 > 1099511627776) then k true
                    else
                      bif decide (x2 < -1099511627776) then k true
                      else
                        bif decide (x2 > 1099511627776) then k true
                        else
                          bif decide (x5 < -1099511627776) then k true
                          else
                            bif decide (x5 > 1099511627776) then k true
                            else
                              Option.bind (g_vec_Cross x0 x1 x2 x3 x4 x5 false) fun (d : Int × Int × Int × Bool) =>
                                Option.bind (g_vec_Cross x3 x4 x5 x0 x1 x2 d.2.2.2) fun (d_1 : Int × Int × Int × Bool) =>
                                  Option.bind (g_vec_Dot d.1 d.2.1 d.2.2.1 x0 x1 x2 d_1.2.2.2) fun (d_2 : Int × Bool) =>
                                    bif
                                        d.1 == IntKind.wrap IntKind.i64 (0 - d_1.1) &&
                                          (d.2.1 == IntKind.wrap IntKind.i64 (0 - d_1.2.1) && (d.2.2.1 == IntKind.wrap IntKind.i64 (0 - d_1.2.2.1) && true)) then
                                      Option.bind (g_vec_Cross x0 x1 x2 x0 x1 x2 d_2.2) fun (d : Int × Int × Int × Bool) =>
                                        bif d.1 == 0 && (d.2.1 == 0 && (d.2.2.1 == 0 && true)) then
                                          bif decide (d_2.1 ≤ 3074) then
                                            bif decide (d_2.1 ≥ -3074) then
                                              Option.bind (g_vec_Dot x0 x1 x2 x3 x4 x5 d.2.2.2) fun (d : Int × Bool) =>
                                                Option.bind (g_vec_Dot x3 x4 x5 x0 x1 x2 d.2) fun (d_3 : Int × Bool) => bif d.1 == d_3.1 then k !d_3.2 else k false
                                            else k false
                                          else k false
                                        else k false
                                    else k false
def f_astrolabelaw5_VecLaws (x0 : Int) (x1 : Int) (x2 : Int) (x3 : Int) (x4 : Int) (x5 : Int) : Option (Bool) := K_astrolabelaw5_VecLaws f_astrolabelaw5_awake f_vec_Cross f_vec_Dot  x0 x1 x2 x3 x4 x5 some
section
open Go.Ab.Rdr
def QA_astrolabelaw5_VecLaws := ((pair (cons (ar (ra (cons (gc (cf (fi .i64 hole))) (cons (gc (cf (fi .i64 hole))) (cons (gc (cf (fi .i64 hole))) nil))))) (cons (ar (ra (cons (gc (cf (fi .i64 hole))) (cons (gc (cf (fi .i64 hole))) (cons (gc (cf (fi .i64 hole))) nil))))) nil)) nil) : Rdr (List AV × List Blk) _)
end
def F_astrolabelaw5_VecLaws (f : (Int) → (Int) → (Int) → (Int) → (Int) → (Int) → Option (Bool)) : Sem1 := fun args h => match (QA_astrolabelaw5_VecLaws).rd (args, h) with
  | some b => .opt (f b.1.1.1 b.1.1.2.1 b.1.1.2.2.1 b.1.2.1.1 b.1.2.1.2.1 b.1.2.1.2.2.1) fun (d : Bool) => .leaf (Res.mk (AV.r (RV.c (CV.f (FV.b d)))) [] [])
  | none => .fail
theorem d_astrolabelaw5_VecLaws (g_astrolabelaw5_awake : Option Bool) (g_vec_Cross : Int → Int → Int → Int → Int → Int → Bool → Option (Int × Int × Int × Bool)) (g_vec_Dot : Int → Int → Int → Int → Int → Int → Bool → Option (Int × Bool))  (x0 : Int) (x1 : Int) (x2 : Int) (x3 : Int) (x4 : Int) (x5 : Int) : den Try.prog (envOf [(30, F_astrolabelaw5_awake g_astrolabelaw5_awake), (40, F_vec_Cross g_vec_Cross), (38, F_vec_Dot g_vec_Dot)]) ⟨[⟨4, [0, 1, 6, 7, 8, 9, 11, 13, 14, 15, 17, 18, 19, 21, 26, 27, 32, 33, 38, 39, 40, 41, 42, 43, 44, 45, 46, 47, 48, 49, 50, 51, 52, 53, 54, 55, 56, 57, 58, 59, 60, 61, 62, 63, 64, 65, 72, 73, 77, 78, 83, 84, 94, 95, 101], []⟩], [], [], [], (some ⟨0, [0, 1, 2, 3, 5, 6, 7, 8, 9, 10, 11, 12, 13, 14, 15, 16, 17, 18, 19, 20, 21, 22, 23, 24, 25, 26, 27, 28, 29, 30, 31, 32, 33, 34, 35, 36, 37, 38, 39, 40, 41, 42, 43, 44, 45, 46, 47, 48, 49, 50, 51, 52, 53, 54, 55, 56, 57, 58, 59, 60, 61, 62, 63, 64, 65, 66, 67, 68, 69, 70, 71, 72, 73, 74, 75, 76, 77, 78, 79, 80, 81, 82, 83, 84, 85, 86, 87, 88, 89, 90, 91, 92, 93, 94, 95, 96, 97, 98, 99, 100, 101], []⟩)⟩ 200 11 [.r (.agg [.c (.f (.i .i64 x0)), .c (.f (.i .i64 x1)), .c (.f (.i .i64 x2))]), .r (.agg [.c (.f (.i .i64 x3)), .c (.f (.i .i64 x4)), .c (.f (.i .i64 x5))])] [] =
    K_astrolabelaw5_VecLaws g_astrolabelaw5_awake g_vec_Cross g_vec_Dot  x0 x1 x2 x3 x4 x5 (fun (d : Bool) => some (Res.mk (AV.r (RV.c (CV.f (FV.b d)))) [] [])) := by kernel_rfl
theorem m_astrolabelaw5_VecLaws {ρ σ : Type} (q : ρ → Option σ) (g_astrolabelaw5_awake : Option Bool) (g_vec_Cross : Int → Int → Int → Int → Int → Int → Bool → Option (Int × Int × Int × Bool)) (g_vec_Dot : Int → Int → Int → Int → Int → Int → Bool → Option (Int × Bool))   (x0 : Int) (x1 : Int) (x2 : Int) (x3 : Int) (x4 : Int) (x5 : Int) (k : (Bool) → Option ρ) : (K_astrolabelaw5_VecLaws g_astrolabelaw5_awake g_vec_Cross g_vec_Dot  x0 x1 x2 x3 x4 x5 k).bind q = K_astrolabelaw5_VecLaws g_astrolabelaw5_awake g_vec_Cross g_vec_Dot  x0 x1 x2 x3 x4 x5 (fun d => (k d).bind q) := by
  simp only [K_astrolabelaw5_VecLaws, bnd_cond, bnd_bind, bnd_none, bnd_sum]
theorem qa_astrolabelaw5_VecLaws : ∀ b, (QA_astrolabelaw5_VecLaws).em b = ([.r (.agg [.c (.f (.i .i64 b.1.1.1)), .c (.f (.i .i64 b.1.1.2.1)), .c (.f (.i .i64 b.1.1.2.2.1))]), .r (.agg [.c (.f (.i .i64 b.1.2.1.1)), .c (.f (.i .i64 b.1.2.1.2.1)), .c (.f (.i .i64 b.1.2.1.2.2.1))])], []) := fun b => by kernel_rfl
theorem e_astrolabelaw5_VecLaws {f : (Int) → (Int) → (Int) → (Int) → (Int) → (Int) → Option (Bool)} {args : List AV} {h : List Blk} {r : Res} (hr : (F_astrolabelaw5_VecLaws f args h).eval = some r) : ∃ x0 x1 x2 x3 x4 x5, args = [.r (.agg [.c (.f (.i .i64 x0)), .c (.f (.i .i64 x1)), .c (.f (.i .i64 x2))]), .r (.agg [.c (.f (.i .i64 x3)), .c (.f (.i .i64 x4)), .c (.f (.i .i64 x5))])] ∧ h = [] ∧ (f x0 x1 x2 x3 x4 x5).bind (fun (d : Bool) => some (Res.mk (AV.r (RV.c (CV.f (FV.b d)))) [] [])) = some r := by
  unfold F_astrolabelaw5_VecLaws at hr
  split at hr
  · rename_i b hb
    have e := ((QA_astrolabelaw5_VecLaws).ok _ _ hb).trans (qa_astrolabelaw5_VecLaws b)
    rw [opt_eval2] at hr
    exact ⟨b.1.1.1, b.1.1.2.1, b.1.1.2.2.1, b.1.2.1.1, b.1.2.1.2.1, b.1.2.1.2.2.1, (Prod.mk.inj e).1, (Prod.mk.inj e).2, hr⟩
  · cases hr
theorem n_astrolabelaw5_VecLaws {σ : Type} (q : (Bool) → Option σ) (x0 : Int) (x1 : Int) (x2 : Int) (x3 : Int) (x4 : Int) (x5 : Int) : (f_astrolabelaw5_VecLaws x0 x1 x2 x3 x4 x5).bind q = K_astrolabelaw5_VecLaws f_astrolabelaw5_awake f_vec_Cross f_vec_Dot  x0 x1 x2 x3 x4 x5 q := by
  unfold f_astrolabelaw5_VecLaws
  exact m_astrolabelaw5_VecLaws q f_astrolabelaw5_awake f_vec_Cross f_vec_Dot   x0 x1 x2 x3 x4 x5 some
theorem s_astrolabelaw5_VecLaws : Sound Try.prog 11 (F_astrolabelaw5_VecLaws f_astrolabelaw5_VecLaws) :=
  (inl_sums (l := [(30, F_astrolabelaw5_awake f_astrolabelaw5_awake), (40, F_vec_Cross f_vec_Cross), (38, F_vec_Dot f_vec_Dot)]) (.cons s_astrolabelaw5_awake (.cons s_vec_Cross (.cons s_vec_Dot (.nil _)))) mixed (hs := ⟨[⟨4, [0, 1, 6, 7, 8, 9, 11, 13, 14, 15, 17, 18, 19, 21, 26, 27, 32, 33, 38, 39, 40, 41, 42, 43, 44, 45, 46, 47, 48, 49, 50, 51, 52, 53, 54, 55, 56, 57, 58, 59, 60, 61, 62, 63, 64, 65, 72, 73, 77, 78, 83, 84, 94, 95, 101], []⟩], [], [], [], (some ⟨0, [0, 1, 2, 3, 5, 6, 7, 8, 9, 10, 11, 12, 13, 14, 15, 16, 17, 18, 19, 20, 21, 22, 23, 24, 25, 26, 27, 28, 29, 30, 31, 32, 33, 34, 35, 36, 37, 38, 39, 40, 41, 42, 43, 44, 45, 46, 47, 48, 49, 50, 51, 52, 53, 54, 55, 56, 57, 58, 59, 60, 61, 62, 63, 64, 65, 66, 67, 68, 69, 70, 71, 72, 73, 74, 75, 76, 77, 78, 79, 80, 81, 82, 83, 84, 85, 86, 87, 88, 89, 90, 91, 92, 93, 94, 95, 96, 97, 98, 99, 100, 101], []⟩)⟩) (lf := 200) (Sums.by (l := [loopIn Try.prog 11 4]) (lj := []) (by kernel_rfl) ⟨SumOK.no (by kernel_rfl), trivial⟩ (by kernel_rfl) trivial) (by kernel_rfl)).by (F := F_astrolabelaw5_VecLaws f_astrolabelaw5_VecLaws) fun args b r hr => by
  obtain ⟨x0, x1, x2, x3, x4, x5, rfl, rfl, hr1⟩ := e_astrolabelaw5_VecLaws hr
  exact inl_eval ((d_astrolabelaw5_VecLaws f_astrolabelaw5_awake f_vec_Cross f_vec_Dot  x0 x1 x2 x3 x4 x5).trans ((n_astrolabelaw5_VecLaws (fun (d : Bool) => some (Res.mk (AV.r (RV.c (CV.f (FV.b d)))) [] [])) x0 x1 x2 x3 x4 x5).symm.trans hr1))

def K_astrolabelaw5_VecSides {ρ : Type} (g_astrolabelaw5_awake : Option Bool) (g_vec_Add : Nat → Bool → (Nat → Int) → (Nat → Int) → (Nat → Int) → Bool → Option (Int × Int × Int × Bool)) (g_vec_Norm : Int → Int → Int → Bool → Option (Int × Bool)) (g_vec_Scale : Int → Int → Int → Int → Bool → Option (Int × Int × Int × Bool)) (g___fx_Acc__Mul : Int → Int → Int → Bool → Option (Int × Bool))  (x0 : Int) (x1 : Int) (x2 : Int) (x3 : Int) (x4 : Int) (x5 : Int) (x6 : Int) (k : (Bool) → Option ρ) : Option ρ :=
  Option.bind g_astrolabelaw5_awake fun (d : Bool) =>
    bif !d then k false
    else
      bif decide (x0 < -1099511627776) then k true
      else
        bif decide (x0 > 1099511627776) then k true
        else
          bif decide (x3 < -1099511627776) then k true
          else
            bif decide (x3 > 1099511627776) then k true
            else
              bif decide (x1 < -1099511627776) then k true
              else
                bif decide (x1 > 1099511627776) then k true
                else
                  bif decide (x4 < -1099511627776) then k true
                  else
                    bif decide (x4 > 1099511627776) then k true
                    else
                      bif decide (x2 < -1099511627776) then k true
                      else
                        bif decide (x2 > 1099511627776) then k true
                        else
                          bif decide (x5 < -1099511627776) then k true
                          else
                            bif decide (x5 > 1099511627776) then k true
                            else
                              bif decide (x6 < 0) then k true
                              else
                                bif decide (x6 > 17179869184) then k true
                                else
                                  Option.bind
                                    (g_vec_Add 2 false (fun (j : Nat) => bif Nat.beq j 1 then x3 else bif Nat.beq j 0 then x0 else x0)
                                      (fun (j : Nat) => bif Nat.beq j 1 then x4 else bif Nat.beq j 0 then x1 else x1) (fun (j : Nat) => bif Nat.beq j 1 then x5 else bif Nat.beq j 0 then x2 else x2)
                                      true)
                                    fun (d : Int × Int × Int × Bool) =>
                                    Option.bind (g_vec_Norm d.1 d.2.1 d.2.2.1 d.2.2.2) fun (d : Int × Bool) =>
                                      Option.bind (g_vec_Norm x0 x1 x2 d.2) fun (d_1 : Int × Bool) =>
                                        Option.bind (g_vec_Scale x0 x1 x2 x6 d_1.2) fun (d_2 : Int × Int × Int × Bool) =>
                                          Option.bind (g_vec_Norm d_2.1 d_2.2.1 d_2.2.2.1 d_2.2.2.2) fun (d_3 : Int × Bool) =>
                                            Option.bind (g___fx_Acc__Mul d_1.1 x6 30 d_3.2) fun (d_4 : Int × Bool) =>
                                              Option.bind (g_vec_Norm x3 x4 x5 d_4.2) fun (d_5 : Int × Bool) =>
                                                bif decide (d.1 ≤ IntKind.wrap IntKind.i64 (IntKind.wrap IntKind.i64 (d_1.1 + d_5.1) + 2)) then
                                                  bif decide (IntKind.wrap IntKind.i64 (d_3.1 - d_4.1) ≤ 20) then
                                                    bif decide (IntKind.wrap IntKind.i64 (d_3.1 - d_4.1) ≥ -20) then k !d_5.2 else k false
                                                  else k false
                                                else k false
def f_astrolabelaw5_VecSides (x0 : Int) (x1 : Int) (x2 : Int) (x3 : Int) (x4 : Int) (x5 : Int) (x6 : Int) : Option (Bool) := K_astrolabelaw5_VecSides f_astrolabelaw5_awake f_vec_Add f_vec_Norm f_vec_Scale f___fx_Acc__Mul  x0 x1 x2 x3 x4 x5 x6 some
section
open Go.Ab.Rdr
def QA_astrolabelaw5_VecSides := ((pair (cons (ar (ra (cons (gc (cf (fi .i64 hole))) (cons (gc (cf (fi .i64 hole))) (cons (gc (cf (fi .i64 hole))) nil))))) (cons (ar (ra (cons (gc (cf (fi .i64 hole))) (cons (gc (cf (fi .i64 hole))) (cons (gc (cf (fi .i64 hole))) nil))))) (cons (ar (rc (cf (fi .i64 hole)))) nil))) nil) : Rdr (List AV × List Blk) _)
end
def F_astrolabelaw5_VecSides (f : (Int) → (Int) → (Int) → (Int) → (Int) → (Int) → (Int) → Option (Bool)) : Sem1 := fun args h => match (QA_astrolabelaw5_VecSides).rd (args, h) with
  | some b => .opt (f b.1.1.1 b.1.1.2.1 b.1.1.2.2.1 b.1.2.1.1 b.1.2.1.2.1 b.1.2.1.2.2.1 b.1.2.2.1) fun (d : Bool) => .leaf (Res.mk (AV.r (RV.c (CV.f (FV.b d)))) [] [])
  | none => .fail
theorem d_astrolabelaw5_VecSides (g_astrolabelaw5_awake : Option Bool) (g_vec_Add : Nat → Bool → (Nat → Int) → (Nat → Int) → (Nat → Int) → Bool → Option (Int × Int × Int × Bool)) (g_vec_Norm : Int → Int → Int → Bool → Option (Int × Bool)) (g_vec_Scale : Int → Int → Int → Int → Bool → Option (Int × Int × Int × Bool)) (g___fx_Acc__Mul : Int → Int → Int → Bool → Option (Int × Bool))  (x0 : Int) (x1 : Int) (x2 : Int) (x3 : Int) (x4 : Int) (x5 : Int) (x6 : Int) : den Try.prog (envOf [(30, F_astrolabelaw5_awake g_astrolabelaw5_awake), (31, F_vec_Add g_vec_Add), (42, F_vec_Norm g_vec_Norm), (36, F_vec_Scale g_vec_Scale), (46, F___fx_Acc__Mul g___fx_Acc__Mul)]) ⟨[⟨4, [0, 1, 5, 6, 8, 9, 11, 13, 14, 15, 17, 18, 19, 20, 21, 22, 27, 28, 33, 34, 39, 40, 41, 42, 45, 46, 47, 48, 49, 50, 51, 52, 53, 54, 55, 56, 57, 58, 59, 60, 61, 62, 63, 64, 65, 66, 67, 68, 69, 70, 71, 72, 73, 74, 75, 76, 77, 80, 81, 84, 85, 91], []⟩], [], [], [], (some ⟨0, [0, 1, 2, 3, 4, 5, 7, 8, 9, 10, 11, 12, 13, 14, 15, 16, 17, 18, 19, 20, 21, 22, 23, 24, 25, 26, 27, 28, 29, 30, 31, 32, 33, 34, 35, 36, 37, 38, 39, 40, 41, 42, 43, 44, 45, 46, 47, 48, 49, 50, 51, 52, 53, 54, 55, 56, 57, 58, 59, 60, 61, 62, 63, 64, 65, 66, 67, 68, 69, 70, 71, 72, 73, 74, 75, 76, 77, 78, 79, 80, 81, 82, 83, 84, 85, 86, 87, 88, 89, 90, 91], []⟩)⟩ 200 13 [.r (.agg [.c (.f (.i .i64 x0)), .c (.f (.i .i64 x1)), .c (.f (.i .i64 x2))]), .r (.agg [.c (.f (.i .i64 x3)), .c (.f (.i .i64 x4)), .c (.f (.i .i64 x5))]), .r (.c (.f (.i .i64 x6)))] [] =
    K_astrolabelaw5_VecSides g_astrolabelaw5_awake g_vec_Add g_vec_Norm g_vec_Scale g___fx_Acc__Mul  x0 x1 x2 x3 x4 x5 x6 (fun (d : Bool) => some (Res.mk (AV.r (RV.c (CV.f (FV.b d)))) [] [])) := by kernel_rfl
theorem m_astrolabelaw5_VecSides {ρ σ : Type} (q : ρ → Option σ) (g_astrolabelaw5_awake : Option Bool) (g_vec_Add : Nat → Bool → (Nat → Int) → (Nat → Int) → (Nat → Int) → Bool → Option (Int × Int × Int × Bool)) (g_vec_Norm : Int → Int → Int → Bool → Option (Int × Bool)) (g_vec_Scale : Int → Int → Int → Int → Bool → Option (Int × Int × Int × Bool)) (g___fx_Acc__Mul : Int → Int → Int → Bool → Option (Int × Bool))   (x0 : Int) (x1 : Int) (x2 : Int) (x3 : Int) (x4 : Int) (x5 : Int) (x6 : Int) (k : (Bool) → Option ρ) : (K_astrolabelaw5_VecSides g_astrolabelaw5_awake g_vec_Add g_vec_Norm g_vec_Scale g___fx_Acc__Mul  x0 x1 x2 x3 x4 x5 x6 k).bind q = K_astrolabelaw5_VecSides g_astrolabelaw5_awake g_vec_Add g_vec_Norm g_vec_Scale g___fx_Acc__Mul  x0 x1 x2 x3 x4 x5 x6 (fun d => (k d).bind q) := by
  simp only [K_astrolabelaw5_VecSides, bnd_cond, bnd_bind, bnd_none, bnd_sum]
theorem qa_astrolabelaw5_VecSides : ∀ b, (QA_astrolabelaw5_VecSides).em b = ([.r (.agg [.c (.f (.i .i64 b.1.1.1)), .c (.f (.i .i64 b.1.1.2.1)), .c (.f (.i .i64 b.1.1.2.2.1))]), .r (.agg [.c (.f (.i .i64 b.1.2.1.1)), .c (.f (.i .i64 b.1.2.1.2.1)), .c (.f (.i .i64 b.1.2.1.2.2.1))]), .r (.c (.f (.i .i64 b.1.2.2.1)))], []) := fun b => by kernel_rfl
theorem e_astrolabelaw5_VecSides {f : (Int) → (Int) → (Int) → (Int) → (Int) → (Int) → (Int) → Option (Bool)} {args : List AV} {h : List Blk} {r : Res} (hr : (F_astrolabelaw5_VecSides f args h).eval = some r) : ∃ x0 x1 x2 x3 x4 x5 x6, args = [.r (.agg [.c (.f (.i .i64 x0)), .c (.f (.i .i64 x1)), .c (.f (.i .i64 x2))]), .r (.agg [.c (.f (.i .i64 x3)), .c (.f (.i .i64 x4)), .c (.f (.i .i64 x5))]), .r (.c (.f (.i .i64 x6)))] ∧ h = [] ∧ (f x0 x1 x2 x3 x4 x5 x6).bind (fun (d : Bool) => some (Res.mk (AV.r (RV.c (CV.f (FV.b d)))) [] [])) = some r := by
  unfold F_astrolabelaw5_VecSides at hr
  split at hr
  · rename_i b hb
    have e := ((QA_astrolabelaw5_VecSides).ok _ _ hb).trans (qa_astrolabelaw5_VecSides b)
    rw [opt_eval2] at hr
    exact ⟨b.1.1.1, b.1.1.2.1, b.1.1.2.2.1, b.1.2.1.1, b.1.2.1.2.1, b.1.2.1.2.2.1, b.1.2.2.1, (Prod.mk.inj e).1, (Prod.mk.inj e).2, hr⟩
  · cases hr
theorem n_astrolabelaw5_VecSides {σ : Type} (q : (Bool) → Option σ) (x0 : Int) (x1 : Int) (x2 : Int) (x3 : Int) (x4 : Int) (x5 : Int) (x6 : Int) : (f_astrolabelaw5_VecSides x0 x1 x2 x3 x4 x5 x6).bind q = K_astrolabelaw5_VecSides f_astrolabelaw5_awake f_vec_Add f_vec_Norm f_vec_Scale f___fx_Acc__Mul  x0 x1 x2 x3 x4 x5 x6 q := by
  unfold f_astrolabelaw5_VecSides
  exact m_astrolabelaw5_VecSides q f_astrolabelaw5_awake f_vec_Add f_vec_Norm f_vec_Scale f___fx_Acc__Mul   x0 x1 x2 x3 x4 x5 x6 some
theorem s_astrolabelaw5_VecSides : Sound Try.prog 13 (F_astrolabelaw5_VecSides f_astrolabelaw5_VecSides) :=
  (inl_sums (l := [(30, F_astrolabelaw5_awake f_astrolabelaw5_awake), (31, F_vec_Add f_vec_Add), (42, F_vec_Norm f_vec_Norm), (36, F_vec_Scale f_vec_Scale), (46, F___fx_Acc__Mul f___fx_Acc__Mul)]) (.cons s_astrolabelaw5_awake (.cons s_vec_Add (.cons s_vec_Norm (.cons s_vec_Scale (.cons s___fx_Acc__Mul (.nil _)))))) mixed (hs := ⟨[⟨4, [0, 1, 5, 6, 8, 9, 11, 13, 14, 15, 17, 18, 19, 20, 21, 22, 27, 28, 33, 34, 39, 40, 41, 42, 45, 46, 47, 48, 49, 50, 51, 52, 53, 54, 55, 56, 57, 58, 59, 60, 61, 62, 63, 64, 65, 66, 67, 68, 69, 70, 71, 72, 73, 74, 75, 76, 77, 80, 81, 84, 85, 91], []⟩], [], [], [], (some ⟨0, [0, 1, 2, 3, 4, 5, 7, 8, 9, 10, 11, 12, 13, 14, 15, 16, 17, 18, 19, 20, 21, 22, 23, 24, 25, 26, 27, 28, 29, 30, 31, 32, 33, 34, 35, 36, 37, 38, 39, 40, 41, 42, 43, 44, 45, 46, 47, 48, 49, 50, 51, 52, 53, 54, 55, 56, 57, 58, 59, 60, 61, 62, 63, 64, 65, 66, 67, 68, 69, 70, 71, 72, 73, 74, 75, 76, 77, 78, 79, 80, 81, 82, 83, 84, 85, 86, 87, 88, 89, 90, 91], []⟩)⟩) (lf := 200) (Sums.by (l := [loopIn Try.prog 13 4]) (lj := []) (by kernel_rfl) ⟨SumOK.no (by kernel_rfl), trivial⟩ (by kernel_rfl) trivial) (by kernel_rfl)).by (F := F_astrolabelaw5_VecSides f_astrolabelaw5_VecSides) fun args b r hr => by
  obtain ⟨x0, x1, x2, x3, x4, x5, x6, rfl, rfl, hr1⟩ := e_astrolabelaw5_VecSides hr
  exact inl_eval ((d_astrolabelaw5_VecSides f_astrolabelaw5_awake f_vec_Add f_vec_Norm f_vec_Scale f___fx_Acc__Mul  x0 x1 x2 x3 x4 x5 x6).trans ((n_astrolabelaw5_VecSides (fun (d : Bool) => some (Res.mk (AV.r (RV.c (CV.f (FV.b d)))) [] [])) x0 x1 x2 x3 x4 x5 x6).symm.trans hr1))

end Go.Proofs.Ythbnojedlbeglaa
