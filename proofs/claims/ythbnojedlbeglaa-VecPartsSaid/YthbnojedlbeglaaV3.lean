/-
  Contracts by plain functions: astrolabelaw5.VecParts
-/
import Derived.Test.YthbnojedlbeglaaV2
set_option maxRecDepth 100000
set_option maxHeartbeats 4000000
set_option linter.unusedVariables false
namespace Go.Proofs.Ythbnojedlbeglaa
open Go.Ab
def K_astrolabelaw5_VecParts {ρ : Type} (g_astrolabelaw5_awake : Option Bool) (g_vec_Add : Nat → Bool → (Nat → Int) → (Nat → Int) → (Nat → Int) → Bool → Option (Int × Int × Int × Bool)) (g_vec_Sub : Int → Int → Int → Int → Int → Int → Bool → Option (Int × Int × Int × Bool)) (g_vec_Dot : Int → Int → Int → Int → Int → Int → Bool → Option (Int × Bool)) (g_vec_Scale : Int → Int → Int → Int → Bool → Option (Int × Int × Int × Bool))  (x0 : Int) (x1 : Int) (x2 : Int) (x3 : Int) (x4 : Int) (x5 : Int) (k : (Bool) → Option ρ) : Option ρ :=
  Option.bind g_astrolabelaw5_awake fun (d : Bool) =>
    bif !d then k false
    else
      Option.bind
        (g_vec_Add 2 false
          (fun (j : Nat) =>
            bif Nat.beq j 1 then IntKind.wrap IntKind.i64 (Int.tdiv x3 16) else bif Nat.beq j 0 then IntKind.wrap IntKind.i64 (Int.tdiv x0 16) else IntKind.wrap IntKind.i64 (Int.tdiv x0 16))
          (fun (j : Nat) =>
            bif Nat.beq j 1 then IntKind.wrap IntKind.i64 (Int.tdiv x4 16) else bif Nat.beq j 0 then IntKind.wrap IntKind.i64 (Int.tdiv x1 16) else IntKind.wrap IntKind.i64 (Int.tdiv x1 16))
          (fun (j : Nat) =>
            bif Nat.beq j 1 then IntKind.wrap IntKind.i64 (Int.tdiv x5 16) else bif Nat.beq j 0 then IntKind.wrap IntKind.i64 (Int.tdiv x2 16) else IntKind.wrap IntKind.i64 (Int.tdiv x2 16))
          true)
        fun (d : Int × Int × Int × Bool) =>
        Option.bind
          (g_vec_Sub d.fst d.snd.fst d.snd.snd.fst (IntKind.wrap IntKind.i64 (Int.tdiv x3 16)) (IntKind.wrap IntKind.i64 (Int.tdiv x4 16)) (IntKind.wrap IntKind.i64 (Int.tdiv x5 16)) d.snd.snd.snd)
          fun (d : Int × Int × Int × Bool) =>
          bif d.fst == IntKind.wrap IntKind.i64 (Int.tdiv x0 16) && (d.snd.fst == IntKind.wrap IntKind.i64 (Int.tdiv x1 16) && (d.snd.snd.fst == IntKind.wrap IntKind.i64 (Int.tdiv x2 16) && true)) then
            Option.bind (g_vec_Dot (IntKind.wrap IntKind.i64 (Int.tdiv x0 16)) (IntKind.wrap IntKind.i64 (Int.tdiv x1 16)) (IntKind.wrap IntKind.i64 (Int.tdiv x2 16)) 1073741824 0 0 d.snd.snd.snd)
              fun (d : Int × Bool) =>
              bif d.fst == IntKind.wrap IntKind.i64 (Int.tdiv x0 16) then
                Option.bind (g_vec_Dot 0 1073741824 0 (IntKind.wrap IntKind.i64 (Int.tdiv x0 16)) (IntKind.wrap IntKind.i64 (Int.tdiv x1 16)) (IntKind.wrap IntKind.i64 (Int.tdiv x2 16)) d.snd)
                  fun (d : Int × Bool) =>
                  bif d.fst == IntKind.wrap IntKind.i64 (Int.tdiv x1 16) then
                    Option.bind
                      (g_vec_Add 2 d.snd (fun (j : Nat) => bif Nat.beq j 1 then 0 else bif Nat.beq j 0 then IntKind.wrap IntKind.i64 (Int.tdiv x0 16) else IntKind.wrap IntKind.i64 (Int.tdiv x0 16))
                        (fun (j : Nat) => bif Nat.beq j 1 then 0 else bif Nat.beq j 0 then IntKind.wrap IntKind.i64 (Int.tdiv x1 16) else IntKind.wrap IntKind.i64 (Int.tdiv x1 16))
                        (fun (j : Nat) => bif Nat.beq j 1 then 0 else bif Nat.beq j 0 then IntKind.wrap IntKind.i64 (Int.tdiv x2 16) else IntKind.wrap IntKind.i64 (Int.tdiv x2 16)) true)
                      fun (d : Int × Int × Int × Bool) =>
                      bif
                          d.fst == IntKind.wrap IntKind.i64 (Int.tdiv x0 16) &&
                            (d.snd.fst == IntKind.wrap IntKind.i64 (Int.tdiv x1 16) && (d.snd.snd.fst == IntKind.wrap IntKind.i64 (Int.tdiv x2 16) && true)) then
                        Option.bind
                          (g_vec_Scale (IntKind.wrap IntKind.i64 (Int.tdiv x0 16)) (IntKind.wrap IntKind.i64 (Int.tdiv x1 16)) (IntKind.wrap IntKind.i64 (Int.tdiv x2 16)) 1073741824 d.snd.snd.snd)
                          fun (d : Int × Int × Int × Bool) =>
                          bif
                              d.fst == IntKind.wrap IntKind.i64 (Int.tdiv x0 16) &&
                                (d.snd.fst == IntKind.wrap IntKind.i64 (Int.tdiv x1 16) && (d.snd.snd.fst == IntKind.wrap IntKind.i64 (Int.tdiv x2 16) && true)) then
                            k !d.snd.snd.snd
                          else k false
                      else k false
                  else k false
              else k false
          else k false
def f_astrolabelaw5_VecParts (x0 : Int) (x1 : Int) (x2 : Int) (x3 : Int) (x4 : Int) (x5 : Int) : Option (Bool) := K_astrolabelaw5_VecParts f_astrolabelaw5_awake f_vec_Add f_vec_Sub f_vec_Dot f_vec_Scale  x0 x1 x2 x3 x4 x5 some
section
open Go.Ab.Rdr
def QA_astrolabelaw5_VecParts := ((pair (cons (ar (ra (cons (gc (cf (fi .i64 hole))) (cons (gc (cf (fi .i64 hole))) (cons (gc (cf (fi .i64 hole))) nil))))) (cons (ar (ra (cons (gc (cf (fi .i64 hole))) (cons (gc (cf (fi .i64 hole))) (cons (gc (cf (fi .i64 hole))) nil))))) nil)) nil) : Rdr (List AV × List Blk) _)
end
def F_astrolabelaw5_VecParts (f : (Int) → (Int) → (Int) → (Int) → (Int) → (Int) → Option (Bool)) : Sem1 := fun args h => match (QA_astrolabelaw5_VecParts).rd (args, h) with
  | some b => .opt (f b.1.1.1 b.1.1.2.1 b.1.1.2.2.1 b.1.2.1.1 b.1.2.1.2.1 b.1.2.1.2.2.1) fun (d : Bool) => .leaf (Res.mk (AV.r (RV.c (CV.f (FV.b d)))) [] [])
  | none => .fail
theorem d_astrolabelaw5_VecParts (g_astrolabelaw5_awake : Option Bool) (g_vec_Add : Nat → Bool → (Nat → Int) → (Nat → Int) → (Nat → Int) → Bool → Option (Int × Int × Int × Bool)) (g_vec_Sub : Int → Int → Int → Int → Int → Int → Bool → Option (Int × Int × Int × Bool)) (g_vec_Dot : Int → Int → Int → Int → Int → Int → Bool → Option (Int × Bool)) (g_vec_Scale : Int → Int → Int → Int → Bool → Option (Int × Int × Int × Bool))  (x0 : Int) (x1 : Int) (x2 : Int) (x3 : Int) (x4 : Int) (x5 : Int) : den Try.prog (envOf [(30, F_astrolabelaw5_awake g_astrolabelaw5_awake), (31, F_vec_Add g_vec_Add), (34, F_vec_Sub g_vec_Sub), (38, F_vec_Dot g_vec_Dot), (36, F_vec_Scale g_vec_Scale)]) ⟨[⟨4, [0, 1, 4, 6, 7, 8, 9, 10, 11, 12, 13, 14, 15, 16, 17, 18, 20, 21, 22, 23, 24, 25, 26, 27, 28, 29, 30, 31, 32, 33, 34, 35, 36, 37, 45, 46, 54, 55, 63, 64, 70, 71, 77], []⟩], [], [], [], none⟩ 200 14 [.r (.agg [.c (.f (.i .i64 x0)), .c (.f (.i .i64 x1)), .c (.f (.i .i64 x2))]), .r (.agg [.c (.f (.i .i64 x3)), .c (.f (.i .i64 x4)), .c (.f (.i .i64 x5))])] [] =
    K_astrolabelaw5_VecParts g_astrolabelaw5_awake g_vec_Add g_vec_Sub g_vec_Dot g_vec_Scale  x0 x1 x2 x3 x4 x5 (fun (d : Bool) => some (Res.mk (AV.r (RV.c (CV.f (FV.b d)))) [] [])) := by kernel_rfl
theorem m_astrolabelaw5_VecParts {ρ σ : Type} (q : ρ → Option σ) (g_astrolabelaw5_awake : Option Bool) (g_vec_Add : Nat → Bool → (Nat → Int) → (Nat → Int) → (Nat → Int) → Bool → Option (Int × Int × Int × Bool)) (g_vec_Sub : Int → Int → Int → Int → Int → Int → Bool → Option (Int × Int × Int × Bool)) (g_vec_Dot : Int → Int → Int → Int → Int → Int → Bool → Option (Int × Bool)) (g_vec_Scale : Int → Int → Int → Int → Bool → Option (Int × Int × Int × Bool))   (x0 : Int) (x1 : Int) (x2 : Int) (x3 : Int) (x4 : Int) (x5 : Int) (k : (Bool) → Option ρ) : (K_astrolabelaw5_VecParts g_astrolabelaw5_awake g_vec_Add g_vec_Sub g_vec_Dot g_vec_Scale  x0 x1 x2 x3 x4 x5 k).bind q = K_astrolabelaw5_VecParts g_astrolabelaw5_awake g_vec_Add g_vec_Sub g_vec_Dot g_vec_Scale  x0 x1 x2 x3 x4 x5 (fun d => (k d).bind q) := by
  simp only [K_astrolabelaw5_VecParts, bnd_cond, bnd_bind, bnd_none, bnd_sum]
theorem qa_astrolabelaw5_VecParts : ∀ b, (QA_astrolabelaw5_VecParts).em b = ([.r (.agg [.c (.f (.i .i64 b.1.1.1)), .c (.f (.i .i64 b.1.1.2.1)), .c (.f (.i .i64 b.1.1.2.2.1))]), .r (.agg [.c (.f (.i .i64 b.1.2.1.1)), .c (.f (.i .i64 b.1.2.1.2.1)), .c (.f (.i .i64 b.1.2.1.2.2.1))])], []) := fun b => by kernel_rfl
theorem e_astrolabelaw5_VecParts {f : (Int) → (Int) → (Int) → (Int) → (Int) → (Int) → Option (Bool)} {args : List AV} {h : List Blk} {r : Res} (hr : (F_astrolabelaw5_VecParts f args h).eval = some r) : ∃ x0 x1 x2 x3 x4 x5, args = [.r (.agg [.c (.f (.i .i64 x0)), .c (.f (.i .i64 x1)), .c (.f (.i .i64 x2))]), .r (.agg [.c (.f (.i .i64 x3)), .c (.f (.i .i64 x4)), .c (.f (.i .i64 x5))])] ∧ h = [] ∧ (f x0 x1 x2 x3 x4 x5).bind (fun (d : Bool) => some (Res.mk (AV.r (RV.c (CV.f (FV.b d)))) [] [])) = some r := by
  unfold F_astrolabelaw5_VecParts at hr
  split at hr
  · rename_i b hb
    have e := ((QA_astrolabelaw5_VecParts).ok _ _ hb).trans (qa_astrolabelaw5_VecParts b)
    rw [opt_eval2] at hr
    exact ⟨b.1.1.1, b.1.1.2.1, b.1.1.2.2.1, b.1.2.1.1, b.1.2.1.2.1, b.1.2.1.2.2.1, (Prod.mk.inj e).1, (Prod.mk.inj e).2, hr⟩
  · cases hr
theorem n_astrolabelaw5_VecParts {σ : Type} (q : (Bool) → Option σ) (x0 : Int) (x1 : Int) (x2 : Int) (x3 : Int) (x4 : Int) (x5 : Int) : (f_astrolabelaw5_VecParts x0 x1 x2 x3 x4 x5).bind q = K_astrolabelaw5_VecParts f_astrolabelaw5_awake f_vec_Add f_vec_Sub f_vec_Dot f_vec_Scale  x0 x1 x2 x3 x4 x5 q := by
  unfold f_astrolabelaw5_VecParts
  exact m_astrolabelaw5_VecParts q f_astrolabelaw5_awake f_vec_Add f_vec_Sub f_vec_Dot f_vec_Scale   x0 x1 x2 x3 x4 x5 some
theorem s_astrolabelaw5_VecParts : Sound Try.prog 14 (F_astrolabelaw5_VecParts f_astrolabelaw5_VecParts) :=
  (inl_sound (l := [(30, F_astrolabelaw5_awake f_astrolabelaw5_awake), (31, F_vec_Add f_vec_Add), (34, F_vec_Sub f_vec_Sub), (38, F_vec_Dot f_vec_Dot), (36, F_vec_Scale f_vec_Scale)]) (.cons s_astrolabelaw5_awake (.cons s_vec_Add (.cons s_vec_Sub (.cons s_vec_Dot (.cons s_vec_Scale (.nil _)))))) mixed [⟨4, [0, 1, 4, 6, 7, 8, 9, 10, 11, 12, 13, 14, 15, 16, 17, 18, 20, 21, 22, 23, 24, 25, 26, 27, 28, 29, 30, 31, 32, 33, 34, 35, 36, 37, 45, 46, 54, 55, 63, 64, 70, 71, 77], []⟩] [] 200 (by kernel_rfl)).by (F := F_astrolabelaw5_VecParts f_astrolabelaw5_VecParts) fun args b r hr => by
  obtain ⟨x0, x1, x2, x3, x4, x5, rfl, rfl, hr1⟩ := e_astrolabelaw5_VecParts hr
  exact inl_eval ((d_astrolabelaw5_VecParts f_astrolabelaw5_awake f_vec_Add f_vec_Sub f_vec_Dot f_vec_Scale  x0 x1 x2 x3 x4 x5).trans ((n_astrolabelaw5_VecParts (fun (d : Bool) => some (Res.mk (AV.r (RV.c (CV.f (FV.b d)))) [] [])) x0 x1 x2 x3 x4 x5).symm.trans hr1))

end Go.Proofs.Ythbnojedlbeglaa
