/-
  Contracts by plain functions: (wide.big).less, (wide.big).minus, wide.Root, root.end, root.Hypot, (*fx.Acc).Sub, vec.Sub, vec.Sat, vec.Scale, vec.Dot, vec.Norm
-/
import Derived.Test.YthbnojedlbeglaaWD
import Derived.Test.YthbnojedlbeglaaVBits
import Derived.Test.YthbnojedlbeglaaVA
set_option maxRecDepth 100000
set_option maxHeartbeats 4000000
set_option linter.unusedVariables false
namespace Go.Proofs.Ythbnojedlbeglaa
open Go.Ab
def K__wide_big__less {ρ : Type}   (x0 : Int) (x1 : Int) (x2 : Int) (x3 : Int) (k : (Bool) → Option ρ) : Option ρ :=
  bif decide (x0 < x2) then k true else bif x0 == x2 then k (decide (x1 < x3)) else k false
def f__wide_big__less (x0 : Int) (x1 : Int) (x2 : Int) (x3 : Int) : Option (Bool) := K__wide_big__less   x0 x1 x2 x3 some
section
open Go.Ab.Rdr
def QA__wide_big__less := ((pair (cons (ar (ra (cons (gc (cf (fi .u64 hole))) (cons (gc (cf (fi .u64 hole))) nil)))) (cons (ar (ra (cons (gc (cf (fi .u64 hole))) (cons (gc (cf (fi .u64 hole))) nil)))) nil)) nil) : Rdr (List AV × List Blk) _)
end
def F__wide_big__less (f : (Int) → (Int) → (Int) → (Int) → Option (Bool)) : Sem1 := fun args h => match (QA__wide_big__less).rd (args, h) with
  | some b => .opt (f b.1.1.1 b.1.1.2.1 b.1.2.1.1 b.1.2.1.2.1) fun (d : Bool) => .leaf (Res.mk (AV.r (RV.c (CV.f (FV.b d)))) [] [])
  | none => .fail
theorem d__wide_big__less   (x0 : Int) (x1 : Int) (x2 : Int) (x3 : Int) : den Try.prog (envOf []) ⟨[], [], [], [], none⟩ 200 99 [.r (.agg [.c (.f (.i .u64 x0)), .c (.f (.i .u64 x1))]), .r (.agg [.c (.f (.i .u64 x2)), .c (.f (.i .u64 x3))])] [] =
    K__wide_big__less   x0 x1 x2 x3 (fun (d : Bool) => some (Res.mk (AV.r (RV.c (CV.f (FV.b d)))) [] [])) := by kernel_rfl
theorem m__wide_big__less {ρ σ : Type} (q : ρ → Option σ)    (x0 : Int) (x1 : Int) (x2 : Int) (x3 : Int) (k : (Bool) → Option ρ) : (K__wide_big__less   x0 x1 x2 x3 k).bind q = K__wide_big__less   x0 x1 x2 x3 (fun d => (k d).bind q) := by
  simp only [K__wide_big__less, bnd_cond, bnd_bind, bnd_none, bnd_sum]
theorem qa__wide_big__less : ∀ b, (QA__wide_big__less).em b = ([.r (.agg [.c (.f (.i .u64 b.1.1.1)), .c (.f (.i .u64 b.1.1.2.1))]), .r (.agg [.c (.f (.i .u64 b.1.2.1.1)), .c (.f (.i .u64 b.1.2.1.2.1))])], []) := fun b => by kernel_rfl
theorem e__wide_big__less {f : (Int) → (Int) → (Int) → (Int) → Option (Bool)} {args : List AV} {h : List Blk} {r : Res} (hr : (F__wide_big__less f args h).eval = some r) : ∃ x0 x1 x2 x3, args = [.r (.agg [.c (.f (.i .u64 x0)), .c (.f (.i .u64 x1))]), .r (.agg [.c (.f (.i .u64 x2)), .c (.f (.i .u64 x3))])] ∧ h = [] ∧ (f x0 x1 x2 x3).bind (fun (d : Bool) => some (Res.mk (AV.r (RV.c (CV.f (FV.b d)))) [] [])) = some r := by
  unfold F__wide_big__less at hr
  split at hr
  · rename_i b hb
    have e := ((QA__wide_big__less).ok _ _ hb).trans (qa__wide_big__less b)
    rw [opt_eval2] at hr
    exact ⟨b.1.1.1, b.1.1.2.1, b.1.2.1.1, b.1.2.1.2.1, (Prod.mk.inj e).1, (Prod.mk.inj e).2, hr⟩
  · cases hr
theorem n__wide_big__less {σ : Type} (q : (Bool) → Option σ) (x0 : Int) (x1 : Int) (x2 : Int) (x3 : Int) : (f__wide_big__less x0 x1 x2 x3).bind q = K__wide_big__less   x0 x1 x2 x3 q := by
  unfold f__wide_big__less
  exact m__wide_big__less q    x0 x1 x2 x3 some
theorem s__wide_big__less : Sound Try.prog 99 (F__wide_big__less f__wide_big__less) :=
  (inl_sound (l := []) (.nil _) mixed [] [] 200 (by kernel_rfl)).by (F := F__wide_big__less f__wide_big__less) fun args b r hr => by
  obtain ⟨x0, x1, x2, x3, rfl, rfl, hr1⟩ := e__wide_big__less hr
  exact inl_eval ((d__wide_big__less   x0 x1 x2 x3).trans ((n__wide_big__less (fun (d : Bool) => some (Res.mk (AV.r (RV.c (CV.f (FV.b d)))) [] [])) x0 x1 x2 x3).symm.trans hr1))

def K__wide_big__minus {ρ : Type} (g_Sub64 : C3)  (x0 : Int) (x1 : Int) (x2 : Int) (x3 : Int) (k : (Int × Int) → Option ρ) : Option ρ :=
  Option.bind (g_Sub64 x1 x3 0) fun (d : Int × Int) => Option.bind (g_Sub64 x0 x2 d.2) fun (d_1 : Int × Int) => k (d_1.1, d.1)
def f__wide_big__minus (x0 : Int) (x1 : Int) (x2 : Int) (x3 : Int) : Option (Int × Int) := K__wide_big__minus f_Sub64  x0 x1 x2 x3 some
section
open Go.Ab.Rdr
def QA__wide_big__minus := ((pair (cons (ar (ra (cons (gc (cf (fi .u64 hole))) (cons (gc (cf (fi .u64 hole))) nil)))) (cons (ar (ra (cons (gc (cf (fi .u64 hole))) (cons (gc (cf (fi .u64 hole))) nil)))) nil)) nil) : Rdr (List AV × List Blk) _)
end
def F__wide_big__minus (f : (Int) → (Int) → (Int) → (Int) → Option (Int × Int)) : Sem1 := fun args h => match (QA__wide_big__minus).rd (args, h) with
  | some b => .opt (f b.1.1.1 b.1.1.2.1 b.1.2.1.1 b.1.2.1.2.1) fun (d : Int × Int) => .leaf (Res.mk (AV.r (RV.agg [Sg.c (CV.f (FV.i IntKind.u64 d.1)), Sg.c (CV.f (FV.i IntKind.u64 d.2))])) [] [])
  | none => .fail
theorem d__wide_big__minus (g_Sub64 : C3)  (x0 : Int) (x1 : Int) (x2 : Int) (x3 : Int) : den Try.prog (envOf [(101, F_carry g_Sub64)]) ⟨[], [], [], [], none⟩ 200 100 [.r (.agg [.c (.f (.i .u64 x0)), .c (.f (.i .u64 x1))]), .r (.agg [.c (.f (.i .u64 x2)), .c (.f (.i .u64 x3))])] [] =
    K__wide_big__minus g_Sub64  x0 x1 x2 x3 (fun (d : Int × Int) => some (Res.mk (AV.r (RV.agg [Sg.c (CV.f (FV.i IntKind.u64 d.1)), Sg.c (CV.f (FV.i IntKind.u64 d.2))])) [] [])) := by kernel_rfl
theorem m__wide_big__minus {ρ σ : Type} (q : ρ → Option σ) (g_Sub64 : C3)   (x0 : Int) (x1 : Int) (x2 : Int) (x3 : Int) (k : (Int × Int) → Option ρ) : (K__wide_big__minus g_Sub64  x0 x1 x2 x3 k).bind q = K__wide_big__minus g_Sub64  x0 x1 x2 x3 (fun d => (k d).bind q) := by
  simp only [K__wide_big__minus, bnd_cond, bnd_bind, bnd_none, bnd_sum]
theorem qa__wide_big__minus : ∀ b, (QA__wide_big__minus).em b = ([.r (.agg [.c (.f (.i .u64 b.1.1.1)), .c (.f (.i .u64 b.1.1.2.1))]), .r (.agg [.c (.f (.i .u64 b.1.2.1.1)), .c (.f (.i .u64 b.1.2.1.2.1))])], []) := fun b => by kernel_rfl
theorem e__wide_big__minus {f : (Int) → (Int) → (Int) → (Int) → Option (Int × Int)} {args : List AV} {h : List Blk} {r : Res} (hr : (F__wide_big__minus f args h).eval = some r) : ∃ x0 x1 x2 x3, args = [.r (.agg [.c (.f (.i .u64 x0)), .c (.f (.i .u64 x1))]), .r (.agg [.c (.f (.i .u64 x2)), .c (.f (.i .u64 x3))])] ∧ h = [] ∧ (f x0 x1 x2 x3).bind (fun (d : Int × Int) => some (Res.mk (AV.r (RV.agg [Sg.c (CV.f (FV.i IntKind.u64 d.1)), Sg.c (CV.f (FV.i IntKind.u64 d.2))])) [] [])) = some r := by
  unfold F__wide_big__minus at hr
  split at hr
  · rename_i b hb
    have e := ((QA__wide_big__minus).ok _ _ hb).trans (qa__wide_big__minus b)
    rw [opt_eval2] at hr
    exact ⟨b.1.1.1, b.1.1.2.1, b.1.2.1.1, b.1.2.1.2.1, (Prod.mk.inj e).1, (Prod.mk.inj e).2, hr⟩
  · cases hr
theorem n__wide_big__minus {σ : Type} (q : (Int × Int) → Option σ) (x0 : Int) (x1 : Int) (x2 : Int) (x3 : Int) : (f__wide_big__minus x0 x1 x2 x3).bind q = K__wide_big__minus f_Sub64  x0 x1 x2 x3 q := by
  unfold f__wide_big__minus
  exact m__wide_big__minus q f_Sub64   x0 x1 x2 x3 some
theorem s__wide_big__minus : Sound Try.prog 100 (F__wide_big__minus f__wide_big__minus) :=
  (inl_sound (l := [(101, F_carry f_Sub64)]) (.cons s_Sub64 (.nil _)) mixed [] [] 200 (by kernel_rfl)).by (F := F__wide_big__minus f__wide_big__minus) fun args b r hr => by
  obtain ⟨x0, x1, x2, x3, rfl, rfl, hr1⟩ := e__wide_big__minus hr
  exact inl_eval ((d__wide_big__minus f_Sub64  x0 x1 x2 x3).trans ((n__wide_big__minus (fun (d : Int × Int) => some (Res.mk (AV.r (RV.agg [Sg.c (CV.f (FV.i IntKind.u64 d.1)), Sg.c (CV.f (FV.i IntKind.u64 d.2))])) [] [])) x0 x1 x2 x3).symm.trans hr1))

def S_wide_Root_0 {ρ : Type} (g__wide_big__shl : Int → Int → Int → Option (Int × Int)) (g__wide_big__plus : Int → Int → Int → Int → Option (Int × Int)) (g__wide_big__shr : Int → Int → Int → Option (Int × Int)) (g__wide_big__less : Int → Int → Int → Int → Option Bool) (g__wide_big__minus : Int → Int → Int → Int → Option (Int × Int)) (g_wide_signed64 : Int → Int → Bool → Option (Int × Bool))  (x0 : Int) (x1 : Int) (x2 : Int) (x3 : Int) (x4 : Int) (c : (Int × Int × Int × Int × Int) → Option ρ) (x : (Int × Bool × Int × Int × Int × Int) → Option ρ) : Option ρ :=
  bif decide (x0 ≥ 0) then
    Option.bind (g__wide_big__shl 0 1 x0) fun (d : Int × Int) =>
      Option.bind (g__wide_big__plus x3 x4 d.1 d.2) fun (d_1 : Int × Int) =>
        Option.bind (g__wide_big__shr x3 x4 1) fun (d_2 : Int × Int) =>
          Option.bind (g__wide_big__less x1 x2 d_1.1 d_1.2) fun (d_3 : Bool) =>
            bif !d_3 then
              Option.bind (g__wide_big__minus x1 x2 d_1.1 d_1.2) fun (d_4 : Int × Int) =>
                Option.bind (g__wide_big__plus d_2.1 d_2.2 d.1 d.2) fun (d : Int × Int) => c (IntKind.wrap IntKind.i64 (x0 - 2), d_4.1, d_4.2, d.1, d.2)
            else c (IntKind.wrap IntKind.i64 (x0 - 2), x1, x2, d_2.1, d_2.2)
  else x (x0, decide (x0 ≥ 0), x1, x2, x3, x4)
section
open Go.Ab.Rdr
def Q_wide_Root_0 := (st (cons aund (cons aund (cons aund (cons aund (cons (ar (rc (cptr (nat 0) (ok' (nat 0)) (nat 2)))) (cons (ar (rc (cptr (nat 1) (ok' (nat 0)) (nat 2)))) (cons (ar (rc (cf (fi .i64 hole)))) (cons aund (cons aund (cons aund (cons aund (cons aund (cons aund (cons aund (cons aund (cons aund (cons aund (cons aund (cons aund (cons aund (cons aund (cons aund (cons aund (cons aund (cons aund (cons aund (cons aund (cons aund (cons aund (cons aund (cons aund (cons aund (cons aund (cons aund (cons aund (cons aund (cons aund (cons aund (cons aund (cons aund (cons aund (cons aund (cons aund (cons aund (cons aund (cons aund (cons aund (cons aund (cons aund (cons aund (cons aund nil))))))))))))))))))))))))))))))))))))))))))))))))))) (cons (some' (cons (gc (cf (fi .u64 hole))) (cons (gc (cf (fi .u64 hole))) nil))) (cons (some' (cons (gc (cf (fi .u64 hole))) (cons (gc (cf (fi .u64 hole))) nil))) nil)) nil)
end
theorem q_wide_Root_0 : ∀ b, (Q_wide_Root_0).em b = St.mk
    [AV.und, AV.und, AV.und, AV.und, AV.r (RV.c (CV.ptr 0 (Off.k 0) 2)), AV.r (RV.c (CV.ptr 1 (Off.k 0) 2)), AV.r (RV.c (CV.f (FV.i IntKind.i64 b.1.2.2.2.2.2.2.1))), AV.und, AV.und, AV.und, AV.und, AV.und, AV.und,
      AV.und, AV.und, AV.und, AV.und, AV.und, AV.und, AV.und, AV.und, AV.und, AV.und, AV.und, AV.und, AV.und, AV.und, AV.und, AV.und, AV.und, AV.und, AV.und, AV.und, AV.und, AV.und, AV.und, AV.und,
      AV.und, AV.und, AV.und, AV.und, AV.und, AV.und, AV.und, AV.und, AV.und, AV.und, AV.und, AV.und, AV.und, AV.und]
    [some [Sg.c (CV.f (FV.i IntKind.u64 b.2.1.1.1)), Sg.c (CV.f (FV.i IntKind.u64 b.2.1.1.2.1))], some [Sg.c (CV.f (FV.i IntKind.u64 b.2.1.2.1.1)), Sg.c (CV.f (FV.i IntKind.u64 b.2.1.2.1.2.1))]] [] := fun b => by kernel_rfl
def R_wide_Root_0 (l : ∀ {ρ : Type}, (Int × Int × Int × Int × Int) → ((Int × Bool × Int × Int × Int × Int) → Option ρ) → Option ρ) {ρ : Type} (s : St) (K : AX → St → Option ρ) : Option ρ := ((Q_wide_Root_0).rd s).bind fun b => l (b.1.2.2.2.2.2.2.1, b.2.1.1.1, b.2.1.1.2.1, b.2.1.2.1.1, b.2.1.2.1.2.1) (fun d => K (AX.ex 0) (St.mk
  [AV.und, AV.und, AV.und, AV.und, AV.r (RV.c (CV.ptr 0 (Off.k 0) 2)), AV.r (RV.c (CV.ptr 1 (Off.k 0) 2)), AV.r (RV.c (CV.f (FV.i IntKind.i64 d.1))), AV.und, AV.und, AV.und, AV.und, AV.und, AV.und,
    AV.und, AV.und, AV.und, AV.und, AV.und, AV.und, AV.r (RV.c (CV.f (FV.i IntKind.i64 d.1))), AV.r (RV.c (CV.f (FV.b d.2.1))), AV.und, AV.und, AV.und, AV.und, AV.und, AV.und, AV.und, AV.und,
    AV.und, AV.und, AV.und, AV.und, AV.und, AV.und, AV.und, AV.und, AV.und, AV.und, AV.und, AV.und, AV.und, AV.und, AV.und, AV.und, AV.und, AV.und, AV.und, AV.und, AV.und, AV.und]
  [some [Sg.c (CV.f (FV.i IntKind.u64 d.2.2.1)), Sg.c (CV.f (FV.i IntKind.u64 d.2.2.2.1))],
    some [Sg.c (CV.f (FV.i IntKind.u64 d.2.2.2.2.1)), Sg.c (CV.f (FV.i IntKind.u64 d.2.2.2.2.2))]]
  []))
theorem ms_wide_Root_0 {ρ σ : Type} (g__wide_big__shl : Int → Int → Int → Option (Int × Int)) (g__wide_big__plus : Int → Int → Int → Int → Option (Int × Int)) (g__wide_big__shr : Int → Int → Int → Option (Int × Int)) (g__wide_big__less : Int → Int → Int → Int → Option Bool) (g__wide_big__minus : Int → Int → Int → Int → Option (Int × Int)) (g_wide_signed64 : Int → Int → Bool → Option (Int × Bool))   (q : ρ → Option σ) (x0 : Int) (x1 : Int) (x2 : Int) (x3 : Int) (x4 : Int) (c : (Int × Int × Int × Int × Int) → Option ρ) (x : (Int × Bool × Int × Int × Int × Int) → Option ρ) : (S_wide_Root_0 g__wide_big__shl g__wide_big__plus g__wide_big__shr g__wide_big__less g__wide_big__minus g_wide_signed64  x0 x1 x2 x3 x4 c x).bind q = S_wide_Root_0 g__wide_big__shl g__wide_big__plus g__wide_big__shr g__wide_big__less g__wide_big__minus g_wide_signed64  x0 x1 x2 x3 x4 (fun d => (c d).bind q) (fun d => (x d).bind q) := by
  simp only [S_wide_Root_0, bnd_cond, bnd_bind, bnd_none, bnd_sum]
def L_wide_Root_0 {ρ : Type} (d : Int × Int × Int × Int × Int) (k : (Int × Bool × Int × Int × Int × Int) → Option ρ) : Option ρ := loopK (fun d c x => S_wide_Root_0 f__wide_big__shl f__wide_big__plus f__wide_big__shr f__wide_big__less f__wide_big__minus f_wide_signed64  d.1 d.2.1 d.2.2.1 d.2.2.2.1 d.2.2.2.2 c x) 200 d k
theorem mL_wide_Root_0 {ρ σ : Type} (q : ρ → Option σ) (d : Int × Int × Int × Int × Int) (k : (Int × Bool × Int × Int × Int × Int) → Option ρ) : (L_wide_Root_0 d k).bind q = L_wide_Root_0 d fun x => (k x).bind q :=
  loopK_bind q (fun d c x => ms_wide_Root_0 f__wide_big__shl f__wide_big__plus f__wide_big__shr f__wide_big__less f__wide_big__minus f_wide_signed64   q d.1 d.2.1 d.2.2.1 d.2.2.2.1 d.2.2.2.2 c x) k _ d
theorem ds_wide_Root_0 {ρ : Type} (g__wide_big__shl : Int → Int → Int → Option (Int × Int)) (g__wide_big__plus : Int → Int → Int → Int → Option (Int × Int)) (g__wide_big__shr : Int → Int → Int → Option (Int × Int)) (g__wide_big__less : Int → Int → Int → Int → Option Bool) (g__wide_big__minus : Int → Int → Int → Int → Option (Int × Int)) (g_wide_signed64 : Int → Int → Bool → Option (Int × Bool)) (l_0 : ∀ {ρ : Type}, (Int × Int × Int × Int × Int) → ((Int × Bool × Int × Int × Int × Int) → Option ρ) → Option ρ) (x0 : Int) (x1 : Int) (x2 : Int) (x3 : Int) (x4 : Int) (c : St → Option ρ) (K : AX → St → Option ρ) :
    runC Try.prog (envOf [(87, F__wide_big__shl g__wide_big__shl), (86, F__wide_big__plus g__wide_big__plus), (89, F__wide_big__shr g__wide_big__shr), (99, F__wide_big__less g__wide_big__less), (100, F__wide_big__minus g__wide_big__minus), (88, F_wide_signed64 g_wide_signed64)]) ⟨[⟨5, [0, 1, 2, 3, 7, 8, 9, 10, 11, 12, 13, 14, 15, 16, 17, 18, 19, 20, 21, 22, 23, 24, 25, 26, 27, 28, 29, 30, 31, 32, 33, 34, 35, 36, 37, 38, 39, 40, 41, 42, 43, 44, 45, 46, 47, 48, 49, 50], []⟩], [⟨5, 0, @R_wide_Root_0 (@l_0)⟩], [], [], none⟩ (tmpsOf Try.prog 96) 0 200 (loopIn Try.prog 96 5)
      (St.mk
    [AV.und, AV.und, AV.und, AV.und, AV.r (RV.c (CV.ptr 0 (Off.k 0) 2)), AV.r (RV.c (CV.ptr 1 (Off.k 0) 2)), AV.r (RV.c (CV.f (FV.i IntKind.i64 x0))), AV.und, AV.und, AV.und, AV.und, AV.und, AV.und,
      AV.und, AV.und, AV.und, AV.und, AV.und, AV.und, AV.und, AV.und, AV.und, AV.und, AV.und, AV.und, AV.und, AV.und, AV.und, AV.und, AV.und, AV.und, AV.und, AV.und, AV.und, AV.und, AV.und, AV.und,
      AV.und, AV.und, AV.und, AV.und, AV.und, AV.und, AV.und, AV.und, AV.und, AV.und, AV.und, AV.und, AV.und, AV.und]
    [some [Sg.c (CV.f (FV.i IntKind.u64 x1)), Sg.c (CV.f (FV.i IntKind.u64 x2))], some [Sg.c (CV.f (FV.i IntKind.u64 x3)), Sg.c (CV.f (FV.i IntKind.u64 x4))]] [])
      (next (fun t => t.head 0 ⟨[⟨5, [0, 1, 2, 3, 7, 8, 9, 10, 11, 12, 13, 14, 15, 16, 17, 18, 19, 20, 21, 22, 23, 24, 25, 26, 27, 28, 29, 30, 31, 32, 33, 34, 35, 36, 37, 38, 39, 40, 41, 42, 43, 44, 45, 46, 47, 48, 49, 50], []⟩], [⟨5, 0, @R_wide_Root_0 (@l_0)⟩], [], [], none⟩ (loopIn Try.prog 96 5)) c K) =
    S_wide_Root_0 g__wide_big__shl g__wide_big__plus g__wide_big__shr g__wide_big__less g__wide_big__minus g_wide_signed64  x0 x1 x2 x3 x4 (fun d => c (St.mk
  [AV.und, AV.und, AV.und, AV.und, AV.r (RV.c (CV.ptr 0 (Off.k 0) 2)), AV.r (RV.c (CV.ptr 1 (Off.k 0) 2)), AV.r (RV.c (CV.f (FV.i IntKind.i64 d.1))), AV.und, AV.und, AV.und, AV.und, AV.und, AV.und,
    AV.und, AV.und, AV.und, AV.und, AV.und, AV.und, AV.und, AV.und, AV.und, AV.und, AV.und, AV.und, AV.und, AV.und, AV.und, AV.und, AV.und, AV.und, AV.und, AV.und, AV.und, AV.und, AV.und, AV.und,
    AV.und, AV.und, AV.und, AV.und, AV.und, AV.und, AV.und, AV.und, AV.und, AV.und, AV.und, AV.und, AV.und, AV.und]
  [some [Sg.c (CV.f (FV.i IntKind.u64 d.2.1)), Sg.c (CV.f (FV.i IntKind.u64 d.2.2.1))],
    some [Sg.c (CV.f (FV.i IntKind.u64 d.2.2.2.1)), Sg.c (CV.f (FV.i IntKind.u64 d.2.2.2.2))]]
  [])) (fun d => K (AX.ex 0) (St.mk
  [AV.und, AV.und, AV.und, AV.und, AV.r (RV.c (CV.ptr 0 (Off.k 0) 2)), AV.r (RV.c (CV.ptr 1 (Off.k 0) 2)), AV.r (RV.c (CV.f (FV.i IntKind.i64 d.1))), AV.und, AV.und, AV.und, AV.und, AV.und, AV.und,
    AV.und, AV.und, AV.und, AV.und, AV.und, AV.und, AV.r (RV.c (CV.f (FV.i IntKind.i64 d.1))), AV.r (RV.c (CV.f (FV.b d.2.1))), AV.und, AV.und, AV.und, AV.und, AV.und, AV.und, AV.und, AV.und,
    AV.und, AV.und, AV.und, AV.und, AV.und, AV.und, AV.und, AV.und, AV.und, AV.und, AV.und, AV.und, AV.und, AV.und, AV.und, AV.und, AV.und, AV.und, AV.und, AV.und, AV.und, AV.und]
  [some [Sg.c (CV.f (FV.i IntKind.u64 d.2.2.1)), Sg.c (CV.f (FV.i IntKind.u64 d.2.2.2.1))],
    some [Sg.c (CV.f (FV.i IntKind.u64 d.2.2.2.2.1)), Sg.c (CV.f (FV.i IntKind.u64 d.2.2.2.2.2))]]
  [])) := by kernel_rfl
theorem it_wide_Root_0 {ρ : Type} (x0 : Int) (x1 : Int) (x2 : Int) (x3 : Int) (x4 : Int) (K : AX → St → Option ρ) :
    iter (fun t => t.head 0 ⟨[⟨5, [0, 1, 2, 3, 7, 8, 9, 10, 11, 12, 13, 14, 15, 16, 17, 18, 19, 20, 21, 22, 23, 24, 25, 26, 27, 28, 29, 30, 31, 32, 33, 34, 35, 36, 37, 38, 39, 40, 41, 42, 43, 44, 45, 46, 47, 48, 49, 50], []⟩], [⟨5, 0, @R_wide_Root_0 (@L_wide_Root_0)⟩], [], [], none⟩ (loopIn Try.prog 96 5)) (runC Try.prog (envOf [(87, F__wide_big__shl f__wide_big__shl), (86, F__wide_big__plus f__wide_big__plus), (89, F__wide_big__shr f__wide_big__shr), (99, F__wide_big__less f__wide_big__less), (100, F__wide_big__minus f__wide_big__minus), (88, F_wide_signed64 f_wide_signed64)]) ⟨[⟨5, [0, 1, 2, 3, 7, 8, 9, 10, 11, 12, 13, 14, 15, 16, 17, 18, 19, 20, 21, 22, 23, 24, 25, 26, 27, 28, 29, 30, 31, 32, 33, 34, 35, 36, 37, 38, 39, 40, 41, 42, 43, 44, 45, 46, 47, 48, 49, 50], []⟩], [⟨5, 0, @R_wide_Root_0 (@L_wide_Root_0)⟩], [], [], none⟩ (tmpsOf Try.prog 96) 0 200 (loopIn Try.prog 96 5)) K 200
      (St.mk
    [AV.und, AV.und, AV.und, AV.und, AV.r (RV.c (CV.ptr 0 (Off.k 0) 2)), AV.r (RV.c (CV.ptr 1 (Off.k 0) 2)), AV.r (RV.c (CV.f (FV.i IntKind.i64 x0))), AV.und, AV.und, AV.und, AV.und, AV.und, AV.und,
      AV.und, AV.und, AV.und, AV.und, AV.und, AV.und, AV.und, AV.und, AV.und, AV.und, AV.und, AV.und, AV.und, AV.und, AV.und, AV.und, AV.und, AV.und, AV.und, AV.und, AV.und, AV.und, AV.und, AV.und,
      AV.und, AV.und, AV.und, AV.und, AV.und, AV.und, AV.und, AV.und, AV.und, AV.und, AV.und, AV.und, AV.und, AV.und]
    [some [Sg.c (CV.f (FV.i IntKind.u64 x1)), Sg.c (CV.f (FV.i IntKind.u64 x2))], some [Sg.c (CV.f (FV.i IntKind.u64 x3)), Sg.c (CV.f (FV.i IntKind.u64 x4))]] []) = L_wide_Root_0 (x0, x1, x2, x3, x4) (fun d => K (AX.ex 0) (St.mk
  [AV.und, AV.und, AV.und, AV.und, AV.r (RV.c (CV.ptr 0 (Off.k 0) 2)), AV.r (RV.c (CV.ptr 1 (Off.k 0) 2)), AV.r (RV.c (CV.f (FV.i IntKind.i64 d.1))), AV.und, AV.und, AV.und, AV.und, AV.und, AV.und,
    AV.und, AV.und, AV.und, AV.und, AV.und, AV.und, AV.r (RV.c (CV.f (FV.i IntKind.i64 d.1))), AV.r (RV.c (CV.f (FV.b d.2.1))), AV.und, AV.und, AV.und, AV.und, AV.und, AV.und, AV.und, AV.und,
    AV.und, AV.und, AV.und, AV.und, AV.und, AV.und, AV.und, AV.und, AV.und, AV.und, AV.und, AV.und, AV.und, AV.und, AV.und, AV.und, AV.und, AV.und, AV.und, AV.und, AV.und, AV.und]
  [some [Sg.c (CV.f (FV.i IntKind.u64 d.2.2.1)), Sg.c (CV.f (FV.i IntKind.u64 d.2.2.2.1))],
    some [Sg.c (CV.f (FV.i IntKind.u64 d.2.2.2.2.1)), Sg.c (CV.f (FV.i IntKind.u64 d.2.2.2.2.2))]]
  [])) :=
  iter_loopX (emb := fun (d : Int × Int × Int × Int × Int) => St.mk
  [AV.und, AV.und, AV.und, AV.und, AV.r (RV.c (CV.ptr 0 (Off.k 0) 2)), AV.r (RV.c (CV.ptr 1 (Off.k 0) 2)), AV.r (RV.c (CV.f (FV.i IntKind.i64 d.1))), AV.und, AV.und, AV.und, AV.und, AV.und, AV.und,
    AV.und, AV.und, AV.und, AV.und, AV.und, AV.und, AV.und, AV.und, AV.und, AV.und, AV.und, AV.und, AV.und, AV.und, AV.und, AV.und, AV.und, AV.und, AV.und, AV.und, AV.und, AV.und, AV.und, AV.und,
    AV.und, AV.und, AV.und, AV.und, AV.und, AV.und, AV.und, AV.und, AV.und, AV.und, AV.und, AV.und, AV.und, AV.und]
  [some [Sg.c (CV.f (FV.i IntKind.u64 d.2.1)), Sg.c (CV.f (FV.i IntKind.u64 d.2.2.1))],
    some [Sg.c (CV.f (FV.i IntKind.u64 d.2.2.2.1)), Sg.c (CV.f (FV.i IntKind.u64 d.2.2.2.2))]]
  []) (step := fun d c x => S_wide_Root_0 f__wide_big__shl f__wide_big__plus f__wide_big__shr f__wide_big__less f__wide_big__minus f_wide_signed64  d.1 d.2.1 d.2.2.1 d.2.2.2.1 d.2.2.2.2 c x) (kx := (fun d => K (AX.ex 0) (St.mk
  [AV.und, AV.und, AV.und, AV.und, AV.r (RV.c (CV.ptr 0 (Off.k 0) 2)), AV.r (RV.c (CV.ptr 1 (Off.k 0) 2)), AV.r (RV.c (CV.f (FV.i IntKind.i64 d.1))), AV.und, AV.und, AV.und, AV.und, AV.und, AV.und,
    AV.und, AV.und, AV.und, AV.und, AV.und, AV.und, AV.r (RV.c (CV.f (FV.i IntKind.i64 d.1))), AV.r (RV.c (CV.f (FV.b d.2.1))), AV.und, AV.und, AV.und, AV.und, AV.und, AV.und, AV.und, AV.und,
    AV.und, AV.und, AV.und, AV.und, AV.und, AV.und, AV.und, AV.und, AV.und, AV.und, AV.und, AV.und, AV.und, AV.und, AV.und, AV.und, AV.und, AV.und, AV.und, AV.und, AV.und, AV.und]
  [some [Sg.c (CV.f (FV.i IntKind.u64 d.2.2.1)), Sg.c (CV.f (FV.i IntKind.u64 d.2.2.2.1))],
    some [Sg.c (CV.f (FV.i IntKind.u64 d.2.2.2.2.1)), Sg.c (CV.f (FV.i IntKind.u64 d.2.2.2.2.2))]]
  [])))
    (fun d c => ds_wide_Root_0 f__wide_big__shl f__wide_big__plus f__wide_big__shr f__wide_big__less f__wide_big__minus f_wide_signed64 (@L_wide_Root_0) d.1 d.2.1 d.2.2.1 d.2.2.2.1 d.2.2.2.2 c K) 200 (x0, x1, x2, x3, x4)
theorem so_wide_Root_0 : ∀ kk, SumOK Try.prog (envOf [(87, F__wide_big__shl f__wide_big__shl), (86, F__wide_big__plus f__wide_big__plus), (89, F__wide_big__shr f__wide_big__shr), (99, F__wide_big__less f__wide_big__less), (100, F__wide_big__minus f__wide_big__minus), (88, F_wide_signed64 f_wide_signed64)]) ⟨[⟨5, [0, 1, 2, 3, 7, 8, 9, 10, 11, 12, 13, 14, 15, 16, 17, 18, 19, 20, 21, 22, 23, 24, 25, 26, 27, 28, 29, 30, 31, 32, 33, 34, 35, 36, 37, 38, 39, 40, 41, 42, 43, 44, 45, 46, 47, 48, 49, 50], []⟩], [⟨5, 0, @R_wide_Root_0 (@L_wide_Root_0)⟩], [], [], none⟩ (tmpsOf Try.prog 96) kk 200 (loopIn Try.prog 96 5) :=
  SumOK.of (id := 5) (k0 := 0) (run := @R_wide_Root_0 (@L_wide_Root_0)) (by kernel_rfl) fun s K r hr => by
    unfold R_wide_Root_0 at hr
    obtain ⟨b, hb, hr1⟩ := Option.bind_eq_some_iff.1 hr
    have e := ((Q_wide_Root_0).ok s b hb).trans (q_wide_Root_0 b)
    subst e
    exact ⟨200, (it_wide_Root_0 b.1.2.2.2.2.2.2.1 b.2.1.1.1 b.2.1.1.2.1 b.2.1.2.1.1 b.2.1.2.1.2.1 K).trans hr1⟩
def K_wide_Root {ρ : Type} (g__wide_big__shl : Int → Int → Int → Option (Int × Int)) (g__wide_big__plus : Int → Int → Int → Int → Option (Int × Int)) (g__wide_big__shr : Int → Int → Int → Option (Int × Int)) (g__wide_big__less : Int → Int → Int → Int → Option Bool) (g__wide_big__minus : Int → Int → Int → Int → Option (Int × Int)) (g_wide_signed64 : Int → Int → Bool → Option (Int × Bool)) (l_0 : ∀ {ρ : Type}, (Int × Int × Int × Int × Int) → ((Int × Bool × Int × Int × Int × Int) → Option ρ) → Option ρ) (x0 : Int) (x1 : Int) (k : (Int × Bool) → Option ρ) : Option ρ :=
  bif decide (x0 < 0) then k (0, false)
  else
    l_0 (126, IntKind.wrap IntKind.u64 x0, x1, 0, 0) fun (d : Int × Bool × Int × Int × Int × Int) =>
      Option.bind (g__wide_big__less d.2.2.2.2.1 d.2.2.2.2.2 d.2.2.1 d.2.2.2.1) fun (d_1 : Bool) =>
        bif d_1 then
          Option.bind (g__wide_big__plus d.2.2.2.2.1 d.2.2.2.2.2 0 1) fun (d : Int × Int) => Option.bind (g_wide_signed64 d.1 d.2 false) fun (d : Int × Bool) => k (d.1, d.2)
        else Option.bind (g_wide_signed64 d.2.2.2.2.1 d.2.2.2.2.2 false) fun (d : Int × Bool) => k (d.1, d.2)
def f_wide_Root (x0 : Int) (x1 : Int) : Option (Int × Bool) := K_wide_Root f__wide_big__shl f__wide_big__plus f__wide_big__shr f__wide_big__less f__wide_big__minus f_wide_signed64 (@L_wide_Root_0) x0 x1 some
section
open Go.Ab.Rdr
def QA_wide_Root := ((pair (cons (ar (ra (cons (gc (cf (fi .i64 hole))) (cons (gc (cf (fi .u64 hole))) nil)))) nil) nil) : Rdr (List AV × List Blk) _)
end
def F_wide_Root (f : (Int) → (Int) → Option (Int × Bool)) : Sem1 := fun args h => match (QA_wide_Root).rd (args, h) with
  | some b => .opt (f b.1.1.1 b.1.1.2.1) fun (d : Int × Bool) => .leaf (Res.mk (AV.tup [RV.c (CV.f (FV.i IntKind.i64 d.1)), RV.c (CV.f (FV.b d.2))]) [] [])
  | none => .fail
theorem d_wide_Root (g__wide_big__shl : Int → Int → Int → Option (Int × Int)) (g__wide_big__plus : Int → Int → Int → Int → Option (Int × Int)) (g__wide_big__shr : Int → Int → Int → Option (Int × Int)) (g__wide_big__less : Int → Int → Int → Int → Option Bool) (g__wide_big__minus : Int → Int → Int → Int → Option (Int × Int)) (g_wide_signed64 : Int → Int → Bool → Option (Int × Bool)) (l_0 : ∀ {ρ : Type}, (Int × Int × Int × Int × Int) → ((Int × Bool × Int × Int × Int × Int) → Option ρ) → Option ρ) (x0 : Int) (x1 : Int) : den Try.prog (envOf [(87, F__wide_big__shl g__wide_big__shl), (86, F__wide_big__plus g__wide_big__plus), (89, F__wide_big__shr g__wide_big__shr), (99, F__wide_big__less g__wide_big__less), (100, F__wide_big__minus g__wide_big__minus), (88, F_wide_signed64 g_wide_signed64)]) ⟨[⟨5, [0, 1, 2, 3, 7, 8, 9, 10, 11, 12, 13, 14, 15, 16, 17, 18, 19, 20, 21, 22, 23, 24, 25, 26, 27, 28, 29, 30, 31, 32, 33, 34, 35, 36, 37, 38, 39, 40, 41, 42, 43, 44, 45, 46, 47, 48, 49, 50], []⟩], [⟨5, 0, @R_wide_Root_0 (@l_0)⟩], [], [], none⟩ 200 96 [.r (.agg [.c (.f (.i .i64 x0)), .c (.f (.i .u64 x1))])] [] =
    K_wide_Root g__wide_big__shl g__wide_big__plus g__wide_big__shr g__wide_big__less g__wide_big__minus g_wide_signed64 (@l_0) x0 x1 (fun (d : Int × Bool) => some (Res.mk (AV.tup [RV.c (CV.f (FV.i IntKind.i64 d.1)), RV.c (CV.f (FV.b d.2))]) [] [])) := by kernel_rfl
theorem m_wide_Root {ρ σ : Type} (q : ρ → Option σ) (g__wide_big__shl : Int → Int → Int → Option (Int × Int)) (g__wide_big__plus : Int → Int → Int → Int → Option (Int × Int)) (g__wide_big__shr : Int → Int → Int → Option (Int × Int)) (g__wide_big__less : Int → Int → Int → Int → Option Bool) (g__wide_big__minus : Int → Int → Int → Int → Option (Int × Int)) (g_wide_signed64 : Int → Int → Bool → Option (Int × Bool)) (l_0 : ∀ {ρ : Type}, (Int × Int × Int × Int × Int) → ((Int × Bool × Int × Int × Int × Int) → Option ρ) → Option ρ) (hl_0 : ∀ {ρ σ : Type} (q : ρ → Option σ) (d : Int × Int × Int × Int × Int) (k : (Int × Bool × Int × Int × Int × Int) → Option ρ), (l_0 d k).bind q = l_0 d fun x => (k x).bind q) (x0 : Int) (x1 : Int) (k : (Int × Bool) → Option ρ) : (K_wide_Root g__wide_big__shl g__wide_big__plus g__wide_big__shr g__wide_big__less g__wide_big__minus g_wide_signed64 (@l_0) x0 x1 k).bind q = K_wide_Root g__wide_big__shl g__wide_big__plus g__wide_big__shr g__wide_big__less g__wide_big__minus g_wide_signed64 (@l_0) x0 x1 (fun d => (k d).bind q) := by
  simp only [K_wide_Root, bnd_cond, bnd_bind, bnd_none, bnd_sum, hl_0]
theorem qa_wide_Root : ∀ b, (QA_wide_Root).em b = ([.r (.agg [.c (.f (.i .i64 b.1.1.1)), .c (.f (.i .u64 b.1.1.2.1))])], []) := fun b => by kernel_rfl
theorem e_wide_Root {f : (Int) → (Int) → Option (Int × Bool)} {args : List AV} {h : List Blk} {r : Res} (hr : (F_wide_Root f args h).eval = some r) : ∃ x0 x1, args = [.r (.agg [.c (.f (.i .i64 x0)), .c (.f (.i .u64 x1))])] ∧ h = [] ∧ (f x0 x1).bind (fun (d : Int × Bool) => some (Res.mk (AV.tup [RV.c (CV.f (FV.i IntKind.i64 d.1)), RV.c (CV.f (FV.b d.2))]) [] [])) = some r := by
  unfold F_wide_Root at hr
  split at hr
  · rename_i b hb
    have e := ((QA_wide_Root).ok _ _ hb).trans (qa_wide_Root b)
    rw [opt_eval2] at hr
    exact ⟨b.1.1.1, b.1.1.2.1, (Prod.mk.inj e).1, (Prod.mk.inj e).2, hr⟩
  · cases hr
theorem n_wide_Root {σ : Type} (q : (Int × Bool) → Option σ) (x0 : Int) (x1 : Int) : (f_wide_Root x0 x1).bind q = K_wide_Root f__wide_big__shl f__wide_big__plus f__wide_big__shr f__wide_big__less f__wide_big__minus f_wide_signed64 (@L_wide_Root_0) x0 x1 q := by
  unfold f_wide_Root
  exact m_wide_Root q f__wide_big__shl f__wide_big__plus f__wide_big__shr f__wide_big__less f__wide_big__minus f_wide_signed64 (@L_wide_Root_0) (fun q d k => mL_wide_Root_0 q d k) x0 x1 some
theorem s_wide_Root : Sound Try.prog 96 (F_wide_Root f_wide_Root) :=
  (inl_sums (l := [(87, F__wide_big__shl f__wide_big__shl), (86, F__wide_big__plus f__wide_big__plus), (89, F__wide_big__shr f__wide_big__shr), (99, F__wide_big__less f__wide_big__less), (100, F__wide_big__minus f__wide_big__minus), (88, F_wide_signed64 f_wide_signed64)]) (.cons s__wide_big__shl (.cons s__wide_big__plus (.cons s__wide_big__shr (.cons s__wide_big__less (.cons s__wide_big__minus (.cons s_wide_signed64 (.nil _))))))) mixed (hs := ⟨[⟨5, [0, 1, 2, 3, 7, 8, 9, 10, 11, 12, 13, 14, 15, 16, 17, 18, 19, 20, 21, 22, 23, 24, 25, 26, 27, 28, 29, 30, 31, 32, 33, 34, 35, 36, 37, 38, 39, 40, 41, 42, 43, 44, 45, 46, 47, 48, 49, 50], []⟩], [⟨5, 0, @R_wide_Root_0 (@L_wide_Root_0)⟩], [], [], none⟩) (lf := 200) (Sums.by (l := [loopIn Try.prog 96 5]) (lj := []) (by kernel_rfl) ⟨so_wide_Root_0, trivial⟩ (by kernel_rfl) trivial) (by kernel_rfl)).by (F := F_wide_Root f_wide_Root) fun args b r hr => by
  obtain ⟨x0, x1, rfl, rfl, hr1⟩ := e_wide_Root hr
  exact inl_eval ((d_wide_Root f__wide_big__shl f__wide_big__plus f__wide_big__shr f__wide_big__less f__wide_big__minus f_wide_signed64 (@L_wide_Root_0) x0 x1).trans ((n_wide_Root (fun (d : Int × Bool) => some (Res.mk (AV.tup [RV.c (CV.f (FV.i IntKind.i64 d.1)), RV.c (CV.f (FV.b d.2))]) [] [])) x0 x1).symm.trans hr1))

def K_root_end {ρ : Type} (g_wide_Root : Int → Int → Option (Int × Bool)) (g___fx_Acc__Sat : Int → Bool → Option (Int × Bool))  (x0 : Int) (x1 : Int) (x2 : Bool) (k : (Int × Bool) → Option ρ) : Option ρ :=
  Option.bind (g_wide_Root x0 x1) fun (d : Int × Bool) =>
    bif !d.2 then Option.bind (g___fx_Acc__Sat 1152921504606846977 x2) fun (d : Int × Bool) => k (d.1, d.2) else Option.bind (g___fx_Acc__Sat d.1 x2) fun (d : Int × Bool) => k (d.1, d.2)
def f_root_end (x0 : Int) (x1 : Int) (x2 : Bool) : Option (Int × Bool) := K_root_end f_wide_Root f___fx_Acc__Sat  x0 x1 x2 some
section
open Go.Ab.Rdr
def QA_root_end := ((pair (cons (ar (rc (cptr (nat 0) (ok' (nat 0)) (nat 1)))) (cons (ar (ra (cons (gc (cf (fi .i64 hole))) (cons (gc (cf (fi .u64 hole))) nil)))) nil)) (cons (cons (gc (cf (fb hole))) nil) nil)) : Rdr (List AV × List Blk) _)
end
def F_root_end (f : (Int) → (Int) → (Bool) → Option (Int × Bool)) : Sem1 := fun args h => match (QA_root_end).rd (args, h) with
  | some b => .opt (f b.1.2.1.1 b.1.2.1.2.1 b.2.1.1) fun (d : Int × Bool) => .leaf (Res.mk (AV.r (RV.c (CV.f (FV.i IntKind.i64 d.1)))) [Ch.set [Sg.c (CV.f (FV.b d.2))]] [])
  | none => .fail
theorem d_root_end (g_wide_Root : Int → Int → Option (Int × Bool)) (g___fx_Acc__Sat : Int → Bool → Option (Int × Bool))  (x0 : Int) (x1 : Int) (x2 : Bool) : den Try.prog (envOf [(96, F_wide_Root g_wide_Root), (52, F___fx_Acc__Sat g___fx_Acc__Sat)]) ⟨[], [], [], [], none⟩ 200 82 [.r (.c (.ptr 0 (.k 0) 1)), .r (.agg [.c (.f (.i .i64 x0)), .c (.f (.i .u64 x1))])] [[.c (.f (.b x2))]] =
    K_root_end g_wide_Root g___fx_Acc__Sat  x0 x1 x2 (fun (d : Int × Bool) => some (Res.mk (AV.r (RV.c (CV.f (FV.i IntKind.i64 d.1)))) [Ch.set [Sg.c (CV.f (FV.b d.2))]] [])) := by kernel_rfl
theorem m_root_end {ρ σ : Type} (q : ρ → Option σ) (g_wide_Root : Int → Int → Option (Int × Bool)) (g___fx_Acc__Sat : Int → Bool → Option (Int × Bool))   (x0 : Int) (x1 : Int) (x2 : Bool) (k : (Int × Bool) → Option ρ) : (K_root_end g_wide_Root g___fx_Acc__Sat  x0 x1 x2 k).bind q = K_root_end g_wide_Root g___fx_Acc__Sat  x0 x1 x2 (fun d => (k d).bind q) := by
  simp only [K_root_end, bnd_cond, bnd_bind, bnd_none, bnd_sum]
theorem qa_root_end : ∀ b, (QA_root_end).em b = ([.r (.c (.ptr 0 (.k 0) 1)), .r (.agg [.c (.f (.i .i64 b.1.2.1.1)), .c (.f (.i .u64 b.1.2.1.2.1))])], [[.c (.f (.b b.2.1.1))]]) := fun b => by kernel_rfl
theorem e_root_end {f : (Int) → (Int) → (Bool) → Option (Int × Bool)} {args : List AV} {h : List Blk} {r : Res} (hr : (F_root_end f args h).eval = some r) : ∃ x0 x1 x2, args = [.r (.c (.ptr 0 (.k 0) 1)), .r (.agg [.c (.f (.i .i64 x0)), .c (.f (.i .u64 x1))])] ∧ h = [[.c (.f (.b x2))]] ∧ (f x0 x1 x2).bind (fun (d : Int × Bool) => some (Res.mk (AV.r (RV.c (CV.f (FV.i IntKind.i64 d.1)))) [Ch.set [Sg.c (CV.f (FV.b d.2))]] [])) = some r := by
  unfold F_root_end at hr
  split at hr
  · rename_i b hb
    have e := ((QA_root_end).ok _ _ hb).trans (qa_root_end b)
    rw [opt_eval2] at hr
    exact ⟨b.1.2.1.1, b.1.2.1.2.1, b.2.1.1, (Prod.mk.inj e).1, (Prod.mk.inj e).2, hr⟩
  · cases hr
theorem n_root_end {σ : Type} (q : (Int × Bool) → Option σ) (x0 : Int) (x1 : Int) (x2 : Bool) : (f_root_end x0 x1 x2).bind q = K_root_end f_wide_Root f___fx_Acc__Sat  x0 x1 x2 q := by
  unfold f_root_end
  exact m_root_end q f_wide_Root f___fx_Acc__Sat   x0 x1 x2 some
theorem s_root_end : Sound Try.prog 82 (F_root_end f_root_end) :=
  (inl_sound (l := [(96, F_wide_Root f_wide_Root), (52, F___fx_Acc__Sat f___fx_Acc__Sat)]) (.cons s_wide_Root (.cons s___fx_Acc__Sat (.nil _))) mixed [] [] 200 (by kernel_rfl)).by (F := F_root_end f_root_end) fun args b r hr => by
  obtain ⟨x0, x1, x2, rfl, rfl, hr1⟩ := e_root_end hr
  exact inl_eval ((d_root_end f_wide_Root f___fx_Acc__Sat  x0 x1 x2).trans ((n_root_end (fun (d : Int × Bool) => some (Res.mk (AV.r (RV.c (CV.f (FV.i IntKind.i64 d.1)))) [Ch.set [Sg.c (CV.f (FV.b d.2))]] [])) x0 x1 x2).symm.trans hr1))

def S_root_Hypot_0 {ρ : Type} (g___fx_Acc__Sat : Int → Bool → Option (Int × Bool)) (g_wide_Mul : Int → Int → Option (Int × Int)) (g_wide_Add : Nat → (Nat → Int) → (Nat → Int) → Bool → Option (Int × Int × Bool)) (g_root_end : Int → Int → Bool → Option (Int × Bool))  (x0 : Nat) (x1 : Bool) (x2 : Int) (x3 : Int) (x4 : Bool) (x5 : Nat) (x6 : Nat → Int) (x7 : Int) (x8 : Int) (c : (Nat × Bool × Int × Int × Bool × Nat × (Nat → Int) × Int × Int) → Option ρ) (x : (Nat × Bool × Int × Int × Bool × Bool × Nat × (Nat → Int) × Int × Int) → Option ρ) : Option ρ :=
  bif decide (x3 < x2) then
    bif inR x3 x0 then
      Option.bind (g___fx_Acc__Sat (x6 (Int.toNat x3)) x4) fun (d : Int × Bool) =>
        Option.bind (g_wide_Mul d.1 d.1) fun (d_1 : Int × Int) =>
          Option.bind
            (g_wide_Add 2 (fun (j : Nat) => bif Nat.beq j 1 then d_1.1 else bif Nat.beq j 0 then x7 else x7) (fun (j : Nat) => bif Nat.beq j 1 then d_1.2 else bif Nat.beq j 0 then x8 else x8) true)
            fun (d_2 : Int × Int × Bool) => c (x0, x1, x2, IntKind.wrap IntKind.i64 (x3 + 1), d.2, x5, x6, d_2.1, d_2.2.1)
    else none
  else x (x0, x1, x2, x3, decide (x3 < x2), x4, x5, x6, x7, x8)
section
open Go.Ab.Rdr
def Q_root_Hypot_0 := (st (cons (ar (rc (cptr (nat 0) (ok' (nat 0)) (nat 1)))) (cons aund (cons aund (cons aund (cons aund (cons (ar (rc (cptr (nat 2) (ok' (nat 0)) (nat 2)))) (cons aund (cons aund (cons aund (cons aund (cons aund (cons aund (cons (ar (rc (csl (nat 1) (ok' (nat 0)) (szs hole) (nat 1) hole))) (cons (ar (rc (cf (fi .i64 hole)))) (cons (ar (rc (cf (fi .i64 hole)))) (cons aund (cons aund (cons aund (cons aund (cons aund (cons aund (cons aund (cons aund (cons aund (cons aund (cons aund (cons aund (cons aund (cons aund (cons aund (cons aund (cons aund (cons aund (cons aund nil)))))))))))))))))))))))))))))))))) (cons (some' (cons (gc (cf (fb hole))) nil)) (cons (some' (cons (ga (szs hole) (cons (ki .i64 hole) nil)) nil)) (cons (some' (cons (gc (cf (fi .i64 hole))) (cons (gc (cf (fi .u64 hole))) nil))) nil))) (cons (nat 0) nil))
end
theorem q_root_Hypot_0 : ∀ b, (Q_root_Hypot_0).em b = St.mk
    [AV.r (RV.c (CV.ptr 0 (Off.k 0) 1)), AV.und, AV.und, AV.und, AV.und, AV.r (RV.c (CV.ptr 2 (Off.k 0) 2)), AV.und, AV.und, AV.und, AV.und, AV.und, AV.und,
      AV.r (RV.c (CV.sl 1 (Off.k 0) (Sz.s b.1.2.2.2.2.2.2.2.2.2.2.2.2.1.2.2.1) 1 b.1.2.2.2.2.2.2.2.2.2.2.2.2.1.2.2.2.2)), AV.r (RV.c (CV.f (FV.i IntKind.i64 b.1.2.2.2.2.2.2.2.2.2.2.2.2.2.1))), AV.r (RV.c (CV.f (FV.i IntKind.i64 b.1.2.2.2.2.2.2.2.2.2.2.2.2.2.2.1))), AV.und, AV.und, AV.und, AV.und, AV.und, AV.und, AV.und, AV.und,
      AV.und, AV.und, AV.und, AV.und, AV.und, AV.und, AV.und, AV.und, AV.und, AV.und, AV.und]
    [some [Sg.c (CV.f (FV.b b.2.1.1.1))], some [Sg.a (Sz.s b.2.1.2.1.1.1) [Col.i IntKind.i64 b.2.1.2.1.1.2.1]], some [Sg.c (CV.f (FV.i IntKind.i64 b.2.1.2.2.1.1)), Sg.c (CV.f (FV.i IntKind.u64 b.2.1.2.2.1.2.1))]] [0] := fun b => by kernel_rfl
def R_root_Hypot_0 (l : ∀ {ρ : Type}, (Nat × Bool × Int × Int × Bool × Nat × (Nat → Int) × Int × Int) → ((Nat × Bool × Int × Int × Bool × Bool × Nat × (Nat → Int) × Int × Int) → Option ρ) → Option ρ) {ρ : Type} (s : St) (K : AX → St → Option ρ) : Option ρ := ((Q_root_Hypot_0).rd s).bind fun b => l (b.1.2.2.2.2.2.2.2.2.2.2.2.2.1.2.2.1, b.1.2.2.2.2.2.2.2.2.2.2.2.2.1.2.2.2.2, b.1.2.2.2.2.2.2.2.2.2.2.2.2.2.1, b.1.2.2.2.2.2.2.2.2.2.2.2.2.2.2.1, b.2.1.1.1, b.2.1.2.1.1.1, b.2.1.2.1.1.2.1, b.2.1.2.2.1.1, b.2.1.2.2.1.2.1) (fun d => K (AX.ex 0) (St.mk
  [AV.r (RV.c (CV.ptr 0 (Off.k 0) 1)), AV.und, AV.und, AV.und, AV.und, AV.r (RV.c (CV.ptr 2 (Off.k 0) 2)), AV.und, AV.und, AV.und, AV.und, AV.und, AV.und,
    AV.r (RV.c (CV.sl 1 (Off.k 0) (Sz.s d.1) 1 d.2.1)), AV.r (RV.c (CV.f (FV.i IntKind.i64 d.2.2.1))), AV.r (RV.c (CV.f (FV.i IntKind.i64 d.2.2.2.1))),
    AV.r (RV.c (CV.f (FV.b d.2.2.2.2.1))), AV.und, AV.und, AV.und, AV.und, AV.und, AV.und, AV.und, AV.und, AV.und, AV.und, AV.und, AV.und, AV.und, AV.und, AV.und, AV.und, AV.und, AV.und]
  [some [Sg.c (CV.f (FV.b d.2.2.2.2.2.1))], some [Sg.a (Sz.s d.2.2.2.2.2.2.1) [Col.i IntKind.i64 d.2.2.2.2.2.2.2.1]],
    some [Sg.c (CV.f (FV.i IntKind.i64 d.2.2.2.2.2.2.2.2.1)), Sg.c (CV.f (FV.i IntKind.u64 d.2.2.2.2.2.2.2.2.2))]]
  [0]))
theorem ms_root_Hypot_0 {ρ σ : Type} (g___fx_Acc__Sat : Int → Bool → Option (Int × Bool)) (g_wide_Mul : Int → Int → Option (Int × Int)) (g_wide_Add : Nat → (Nat → Int) → (Nat → Int) → Bool → Option (Int × Int × Bool)) (g_root_end : Int → Int → Bool → Option (Int × Bool))   (q : ρ → Option σ) (x0 : Nat) (x1 : Bool) (x2 : Int) (x3 : Int) (x4 : Bool) (x5 : Nat) (x6 : Nat → Int) (x7 : Int) (x8 : Int) (c : (Nat × Bool × Int × Int × Bool × Nat × (Nat → Int) × Int × Int) → Option ρ) (x : (Nat × Bool × Int × Int × Bool × Bool × Nat × (Nat → Int) × Int × Int) → Option ρ) : (S_root_Hypot_0 g___fx_Acc__Sat g_wide_Mul g_wide_Add g_root_end  x0 x1 x2 x3 x4 x5 x6 x7 x8 c x).bind q = S_root_Hypot_0 g___fx_Acc__Sat g_wide_Mul g_wide_Add g_root_end  x0 x1 x2 x3 x4 x5 x6 x7 x8 (fun d => (c d).bind q) (fun d => (x d).bind q) := by
  simp only [S_root_Hypot_0, bnd_cond, bnd_bind, bnd_none, bnd_sum]
def L_root_Hypot_0 {ρ : Type} (d : Nat × Bool × Int × Int × Bool × Nat × (Nat → Int) × Int × Int) (k : (Nat × Bool × Int × Int × Bool × Bool × Nat × (Nat → Int) × Int × Int) → Option ρ) : Option ρ := loopK (fun d c x => S_root_Hypot_0 f___fx_Acc__Sat f_wide_Mul f_wide_Add f_root_end  d.1 d.2.1 d.2.2.1 d.2.2.2.1 d.2.2.2.2.1 d.2.2.2.2.2.1 d.2.2.2.2.2.2.1 d.2.2.2.2.2.2.2.1 d.2.2.2.2.2.2.2.2 c x) 200 d k
theorem mL_root_Hypot_0 {ρ σ : Type} (q : ρ → Option σ) (d : Nat × Bool × Int × Int × Bool × Nat × (Nat → Int) × Int × Int) (k : (Nat × Bool × Int × Int × Bool × Bool × Nat × (Nat → Int) × Int × Int) → Option ρ) : (L_root_Hypot_0 d k).bind q = L_root_Hypot_0 d fun x => (k x).bind q :=
  loopK_bind q (fun d c x => ms_root_Hypot_0 f___fx_Acc__Sat f_wide_Mul f_wide_Add f_root_end   q d.1 d.2.1 d.2.2.1 d.2.2.2.1 d.2.2.2.2.1 d.2.2.2.2.2.1 d.2.2.2.2.2.2.1 d.2.2.2.2.2.2.2.1 d.2.2.2.2.2.2.2.2 c x) k _ d
theorem ds_root_Hypot_0 {ρ : Type} (g___fx_Acc__Sat : Int → Bool → Option (Int × Bool)) (g_wide_Mul : Int → Int → Option (Int × Int)) (g_wide_Add : Nat → (Nat → Int) → (Nat → Int) → Bool → Option (Int × Int × Bool)) (g_root_end : Int → Int → Bool → Option (Int × Bool)) (l_0 : ∀ {ρ : Type}, (Nat × Bool × Int × Int × Bool × Nat × (Nat → Int) × Int × Int) → ((Nat × Bool × Int × Int × Bool × Bool × Nat × (Nat → Int) × Int × Int) → Option ρ) → Option ρ) (x0 : Nat) (x1 : Bool) (x2 : Int) (x3 : Int) (x4 : Bool) (x5 : Nat) (x6 : Nat → Int) (x7 : Int) (x8 : Int) (c : St → Option ρ) (K : AX → St → Option ρ) :
    runC Try.prog (envOf [(52, F___fx_Acc__Sat g___fx_Acc__Sat), (70, F_wide_Mul g_wide_Mul), (66, F_wide_Add g_wide_Add), (82, F_root_end g_root_end)]) ⟨[⟨3, [1, 2, 3, 4, 6, 7, 8, 9, 10, 11, 15, 16, 17, 18, 19, 20, 21, 22, 23, 24, 25, 26, 27, 28, 29, 30, 31, 32, 33], []⟩], [⟨3, 2, @R_root_Hypot_0 (@l_0)⟩], [0], [], none⟩ (tmpsOf Try.prog 64) 2 200 (loopIn Try.prog 64 3)
      (St.mk
    [AV.r (RV.c (CV.ptr 0 (Off.k 0) 1)), AV.und, AV.und, AV.und, AV.und, AV.r (RV.c (CV.ptr 2 (Off.k 0) 2)), AV.und, AV.und, AV.und, AV.und, AV.und, AV.und,
      AV.r (RV.c (CV.sl 1 (Off.k 0) (Sz.s x0) 1 x1)), AV.r (RV.c (CV.f (FV.i IntKind.i64 x2))), AV.r (RV.c (CV.f (FV.i IntKind.i64 x3))), AV.und, AV.und, AV.und, AV.und, AV.und, AV.und, AV.und, AV.und,
      AV.und, AV.und, AV.und, AV.und, AV.und, AV.und, AV.und, AV.und, AV.und, AV.und, AV.und]
    [some [Sg.c (CV.f (FV.b x4))], some [Sg.a (Sz.s x5) [Col.i IntKind.i64 x6]], some [Sg.c (CV.f (FV.i IntKind.i64 x7)), Sg.c (CV.f (FV.i IntKind.u64 x8))]] [0])
      (next (fun t => t.head 2 ⟨[⟨3, [1, 2, 3, 4, 6, 7, 8, 9, 10, 11, 15, 16, 17, 18, 19, 20, 21, 22, 23, 24, 25, 26, 27, 28, 29, 30, 31, 32, 33], []⟩], [⟨3, 2, @R_root_Hypot_0 (@l_0)⟩], [0], [], none⟩ (loopIn Try.prog 64 3)) c K) =
    S_root_Hypot_0 g___fx_Acc__Sat g_wide_Mul g_wide_Add g_root_end  x0 x1 x2 x3 x4 x5 x6 x7 x8 (fun d => c (St.mk
  [AV.r (RV.c (CV.ptr 0 (Off.k 0) 1)), AV.und, AV.und, AV.und, AV.und, AV.r (RV.c (CV.ptr 2 (Off.k 0) 2)), AV.und, AV.und, AV.und, AV.und, AV.und, AV.und,
    AV.r (RV.c (CV.sl 1 (Off.k 0) (Sz.s d.1) 1 d.2.1)), AV.r (RV.c (CV.f (FV.i IntKind.i64 d.2.2.1))), AV.r (RV.c (CV.f (FV.i IntKind.i64 d.2.2.2.1))), AV.und, AV.und, AV.und,
    AV.und, AV.und, AV.und, AV.und, AV.und, AV.und, AV.und, AV.und, AV.und, AV.und, AV.und, AV.und, AV.und, AV.und, AV.und, AV.und]
  [some [Sg.c (CV.f (FV.b d.2.2.2.2.1))], some [Sg.a (Sz.s d.2.2.2.2.2.1) [Col.i IntKind.i64 d.2.2.2.2.2.2.1]],
    some [Sg.c (CV.f (FV.i IntKind.i64 d.2.2.2.2.2.2.2.1)), Sg.c (CV.f (FV.i IntKind.u64 d.2.2.2.2.2.2.2.2))]]
  [0])) (fun d => K (AX.ex 0) (St.mk
  [AV.r (RV.c (CV.ptr 0 (Off.k 0) 1)), AV.und, AV.und, AV.und, AV.und, AV.r (RV.c (CV.ptr 2 (Off.k 0) 2)), AV.und, AV.und, AV.und, AV.und, AV.und, AV.und,
    AV.r (RV.c (CV.sl 1 (Off.k 0) (Sz.s d.1) 1 d.2.1)), AV.r (RV.c (CV.f (FV.i IntKind.i64 d.2.2.1))), AV.r (RV.c (CV.f (FV.i IntKind.i64 d.2.2.2.1))),
    AV.r (RV.c (CV.f (FV.b d.2.2.2.2.1))), AV.und, AV.und, AV.und, AV.und, AV.und, AV.und, AV.und, AV.und, AV.und, AV.und, AV.und, AV.und, AV.und, AV.und, AV.und, AV.und, AV.und, AV.und]
  [some [Sg.c (CV.f (FV.b d.2.2.2.2.2.1))], some [Sg.a (Sz.s d.2.2.2.2.2.2.1) [Col.i IntKind.i64 d.2.2.2.2.2.2.2.1]],
    some [Sg.c (CV.f (FV.i IntKind.i64 d.2.2.2.2.2.2.2.2.1)), Sg.c (CV.f (FV.i IntKind.u64 d.2.2.2.2.2.2.2.2.2))]]
  [0])) := by kernel_rfl
theorem it_root_Hypot_0 {ρ : Type} (x0 : Nat) (x1 : Bool) (x2 : Int) (x3 : Int) (x4 : Bool) (x5 : Nat) (x6 : Nat → Int) (x7 : Int) (x8 : Int) (K : AX → St → Option ρ) :
    iter (fun t => t.head 2 ⟨[⟨3, [1, 2, 3, 4, 6, 7, 8, 9, 10, 11, 15, 16, 17, 18, 19, 20, 21, 22, 23, 24, 25, 26, 27, 28, 29, 30, 31, 32, 33], []⟩], [⟨3, 2, @R_root_Hypot_0 (@L_root_Hypot_0)⟩], [0], [], none⟩ (loopIn Try.prog 64 3)) (runC Try.prog (envOf [(52, F___fx_Acc__Sat f___fx_Acc__Sat), (70, F_wide_Mul f_wide_Mul), (66, F_wide_Add f_wide_Add), (82, F_root_end f_root_end)]) ⟨[⟨3, [1, 2, 3, 4, 6, 7, 8, 9, 10, 11, 15, 16, 17, 18, 19, 20, 21, 22, 23, 24, 25, 26, 27, 28, 29, 30, 31, 32, 33], []⟩], [⟨3, 2, @R_root_Hypot_0 (@L_root_Hypot_0)⟩], [0], [], none⟩ (tmpsOf Try.prog 64) 2 200 (loopIn Try.prog 64 3)) K 200
      (St.mk
    [AV.r (RV.c (CV.ptr 0 (Off.k 0) 1)), AV.und, AV.und, AV.und, AV.und, AV.r (RV.c (CV.ptr 2 (Off.k 0) 2)), AV.und, AV.und, AV.und, AV.und, AV.und, AV.und,
      AV.r (RV.c (CV.sl 1 (Off.k 0) (Sz.s x0) 1 x1)), AV.r (RV.c (CV.f (FV.i IntKind.i64 x2))), AV.r (RV.c (CV.f (FV.i IntKind.i64 x3))), AV.und, AV.und, AV.und, AV.und, AV.und, AV.und, AV.und, AV.und,
      AV.und, AV.und, AV.und, AV.und, AV.und, AV.und, AV.und, AV.und, AV.und, AV.und, AV.und]
    [some [Sg.c (CV.f (FV.b x4))], some [Sg.a (Sz.s x5) [Col.i IntKind.i64 x6]], some [Sg.c (CV.f (FV.i IntKind.i64 x7)), Sg.c (CV.f (FV.i IntKind.u64 x8))]] [0]) = L_root_Hypot_0 (x0, x1, x2, x3, x4, x5, x6, x7, x8) (fun d => K (AX.ex 0) (St.mk
  [AV.r (RV.c (CV.ptr 0 (Off.k 0) 1)), AV.und, AV.und, AV.und, AV.und, AV.r (RV.c (CV.ptr 2 (Off.k 0) 2)), AV.und, AV.und, AV.und, AV.und, AV.und, AV.und,
    AV.r (RV.c (CV.sl 1 (Off.k 0) (Sz.s d.1) 1 d.2.1)), AV.r (RV.c (CV.f (FV.i IntKind.i64 d.2.2.1))), AV.r (RV.c (CV.f (FV.i IntKind.i64 d.2.2.2.1))),
    AV.r (RV.c (CV.f (FV.b d.2.2.2.2.1))), AV.und, AV.und, AV.und, AV.und, AV.und, AV.und, AV.und, AV.und, AV.und, AV.und, AV.und, AV.und, AV.und, AV.und, AV.und, AV.und, AV.und, AV.und]
  [some [Sg.c (CV.f (FV.b d.2.2.2.2.2.1))], some [Sg.a (Sz.s d.2.2.2.2.2.2.1) [Col.i IntKind.i64 d.2.2.2.2.2.2.2.1]],
    some [Sg.c (CV.f (FV.i IntKind.i64 d.2.2.2.2.2.2.2.2.1)), Sg.c (CV.f (FV.i IntKind.u64 d.2.2.2.2.2.2.2.2.2))]]
  [0])) :=
  iter_loopX (emb := fun (d : Nat × Bool × Int × Int × Bool × Nat × (Nat → Int) × Int × Int) => St.mk
  [AV.r (RV.c (CV.ptr 0 (Off.k 0) 1)), AV.und, AV.und, AV.und, AV.und, AV.r (RV.c (CV.ptr 2 (Off.k 0) 2)), AV.und, AV.und, AV.und, AV.und, AV.und, AV.und,
    AV.r (RV.c (CV.sl 1 (Off.k 0) (Sz.s d.1) 1 d.2.1)), AV.r (RV.c (CV.f (FV.i IntKind.i64 d.2.2.1))), AV.r (RV.c (CV.f (FV.i IntKind.i64 d.2.2.2.1))), AV.und, AV.und, AV.und,
    AV.und, AV.und, AV.und, AV.und, AV.und, AV.und, AV.und, AV.und, AV.und, AV.und, AV.und, AV.und, AV.und, AV.und, AV.und, AV.und]
  [some [Sg.c (CV.f (FV.b d.2.2.2.2.1))], some [Sg.a (Sz.s d.2.2.2.2.2.1) [Col.i IntKind.i64 d.2.2.2.2.2.2.1]],
    some [Sg.c (CV.f (FV.i IntKind.i64 d.2.2.2.2.2.2.2.1)), Sg.c (CV.f (FV.i IntKind.u64 d.2.2.2.2.2.2.2.2))]]
  [0]) (step := fun d c x => S_root_Hypot_0 f___fx_Acc__Sat f_wide_Mul f_wide_Add f_root_end  d.1 d.2.1 d.2.2.1 d.2.2.2.1 d.2.2.2.2.1 d.2.2.2.2.2.1 d.2.2.2.2.2.2.1 d.2.2.2.2.2.2.2.1 d.2.2.2.2.2.2.2.2 c x) (kx := (fun d => K (AX.ex 0) (St.mk
  [AV.r (RV.c (CV.ptr 0 (Off.k 0) 1)), AV.und, AV.und, AV.und, AV.und, AV.r (RV.c (CV.ptr 2 (Off.k 0) 2)), AV.und, AV.und, AV.und, AV.und, AV.und, AV.und,
    AV.r (RV.c (CV.sl 1 (Off.k 0) (Sz.s d.1) 1 d.2.1)), AV.r (RV.c (CV.f (FV.i IntKind.i64 d.2.2.1))), AV.r (RV.c (CV.f (FV.i IntKind.i64 d.2.2.2.1))),
    AV.r (RV.c (CV.f (FV.b d.2.2.2.2.1))), AV.und, AV.und, AV.und, AV.und, AV.und, AV.und, AV.und, AV.und, AV.und, AV.und, AV.und, AV.und, AV.und, AV.und, AV.und, AV.und, AV.und, AV.und]
  [some [Sg.c (CV.f (FV.b d.2.2.2.2.2.1))], some [Sg.a (Sz.s d.2.2.2.2.2.2.1) [Col.i IntKind.i64 d.2.2.2.2.2.2.2.1]],
    some [Sg.c (CV.f (FV.i IntKind.i64 d.2.2.2.2.2.2.2.2.1)), Sg.c (CV.f (FV.i IntKind.u64 d.2.2.2.2.2.2.2.2.2))]]
  [0])))
    (fun d c => ds_root_Hypot_0 f___fx_Acc__Sat f_wide_Mul f_wide_Add f_root_end (@L_root_Hypot_0) d.1 d.2.1 d.2.2.1 d.2.2.2.1 d.2.2.2.2.1 d.2.2.2.2.2.1 d.2.2.2.2.2.2.1 d.2.2.2.2.2.2.2.1 d.2.2.2.2.2.2.2.2 c K) 200 (x0, x1, x2, x3, x4, x5, x6, x7, x8)
theorem so_root_Hypot_0 : ∀ kk, SumOK Try.prog (envOf [(52, F___fx_Acc__Sat f___fx_Acc__Sat), (70, F_wide_Mul f_wide_Mul), (66, F_wide_Add f_wide_Add), (82, F_root_end f_root_end)]) ⟨[⟨3, [1, 2, 3, 4, 6, 7, 8, 9, 10, 11, 15, 16, 17, 18, 19, 20, 21, 22, 23, 24, 25, 26, 27, 28, 29, 30, 31, 32, 33], []⟩], [⟨3, 2, @R_root_Hypot_0 (@L_root_Hypot_0)⟩], [0], [], none⟩ (tmpsOf Try.prog 64) kk 200 (loopIn Try.prog 64 3) :=
  SumOK.of (id := 3) (k0 := 2) (run := @R_root_Hypot_0 (@L_root_Hypot_0)) (by kernel_rfl) fun s K r hr => by
    unfold R_root_Hypot_0 at hr
    obtain ⟨b, hb, hr1⟩ := Option.bind_eq_some_iff.1 hr
    have e := ((Q_root_Hypot_0).ok s b hb).trans (q_root_Hypot_0 b)
    subst e
    exact ⟨200, (it_root_Hypot_0 b.1.2.2.2.2.2.2.2.2.2.2.2.2.1.2.2.1 b.1.2.2.2.2.2.2.2.2.2.2.2.2.1.2.2.2.2 b.1.2.2.2.2.2.2.2.2.2.2.2.2.2.1 b.1.2.2.2.2.2.2.2.2.2.2.2.2.2.2.1 b.2.1.1.1 b.2.1.2.1.1.1 b.2.1.2.1.1.2.1 b.2.1.2.2.1.1 b.2.1.2.2.1.2.1 K).trans hr1⟩
def K_root_Hypot {ρ : Type} (g___fx_Acc__Sat : Int → Bool → Option (Int × Bool)) (g_wide_Mul : Int → Int → Option (Int × Int)) (g_wide_Add : Nat → (Nat → Int) → (Nat → Int) → Bool → Option (Int × Int × Bool)) (g_root_end : Int → Int → Bool → Option (Int × Bool)) (l_0 : ∀ {ρ : Type}, (Nat × Bool × Int × Int × Bool × Nat × (Nat → Int) × Int × Int) → ((Nat × Bool × Int × Int × Bool × Bool × Nat × (Nat → Int) × Int × Int) → Option ρ) → Option ρ) (x0 : Nat) (x1 : Bool) (x2 : Nat → Int) (w0 : Bool) (k : (Int × Bool) → Option ρ) : Option ρ :=
  bif inRe (if 64 < Int.ofNat x0 then 64 else Int.ofNat x0) x0 then
    l_0 (Int.toNat (if 64 < Int.ofNat x0 then 64 else Int.ofNat x0), w0 && false, Int.ofNat (Int.toNat (if 64 < Int.ofNat x0 then 64 else Int.ofNat x0)), 0, x1, x0, x2, 0, 0)
      fun (d : Nat × Bool × Int × Int × Bool × Bool × Nat × (Nat → Int) × Int × Int) =>
      Option.bind (g_root_end d.2.2.2.2.2.2.2.2.1 d.2.2.2.2.2.2.2.2.2 d.2.2.2.2.2.1) fun (d : Int × Bool) => k (d.1, d.2)
  else none
def f_root_Hypot (x0 : Nat) (x1 : Bool) (x2 : Nat → Int) (w0 : Bool) : Option (Int × Bool) := K_root_Hypot f___fx_Acc__Sat f_wide_Mul f_wide_Add f_root_end (@L_root_Hypot_0) x0 x1 x2 w0 some
section
open Go.Ab.Rdr
def QA_root_Hypot := ((pair (cons (ar (rc (cptr (nat 0) (ok' (nat 0)) (nat 1)))) (cons (ar (rc (csl (nat 1) (ok' (nat 0)) (szs hole) (nat 1) hole))) nil)) (cons (cons (gc (cf (fb hole))) nil) (cons (cons (ga (szs hole) (cons (ki .i64 hole) nil)) nil) nil))) : Rdr (List AV × List Blk) _)
end
def F0_root_Hypot (f : (Nat) → (Bool) → (Nat → Int) → (Bool) → Option (Int × Bool)) : Sem1 := fun args h => match (QA_root_Hypot).rd (args, h) with
  | some b => .test (Nat.beq b.2.2.1.1.1 b.1.2.1.2.2.1) (.opt (f b.1.2.1.2.2.1 b.2.1.1 b.2.2.1.1.2.1 b.1.2.1.2.2.2.2) fun (d : Int × Bool) => .leaf (Res.mk (AV.r (RV.c (CV.f (FV.i IntKind.i64 d.1)))) [Ch.set [Sg.c (CV.f (FV.b d.2))], Ch.keep] [])) .fail
  | none => .fail
def F_root_Hypot (f : (Nat) → (Bool) → (Nat → Int) → (Bool) → Option (Int × Bool)) : Sem1 := (nilF 1 [.i .i64] (F0_root_Hypot f))
theorem d_root_Hypot (g___fx_Acc__Sat : Int → Bool → Option (Int × Bool)) (g_wide_Mul : Int → Int → Option (Int × Int)) (g_wide_Add : Nat → (Nat → Int) → (Nat → Int) → Bool → Option (Int × Int × Bool)) (g_root_end : Int → Int → Bool → Option (Int × Bool)) (l_0 : ∀ {ρ : Type}, (Nat × Bool × Int × Int × Bool × Nat × (Nat → Int) × Int × Int) → ((Nat × Bool × Int × Int × Bool × Bool × Nat × (Nat → Int) × Int × Int) → Option ρ) → Option ρ) (x0 : Nat) (x1 : Bool) (x2 : Nat → Int) (w0 : Bool) : den Try.prog (envOf [(52, F___fx_Acc__Sat g___fx_Acc__Sat), (70, F_wide_Mul g_wide_Mul), (66, F_wide_Add g_wide_Add), (82, F_root_end g_root_end)]) ⟨[⟨3, [1, 2, 3, 4, 6, 7, 8, 9, 10, 11, 15, 16, 17, 18, 19, 20, 21, 22, 23, 24, 25, 26, 27, 28, 29, 30, 31, 32, 33], []⟩], [⟨3, 2, @R_root_Hypot_0 (@l_0)⟩], [0], [], none⟩ 200 64 [.r (.c (.ptr 0 (.k 0) 1)), .r (.c (.sl 1 (.k 0) (.s x0) 1 w0))] [[.c (.f (.b x1))], [.a (.s x0) [.i .i64 x2]]] =
    K_root_Hypot g___fx_Acc__Sat g_wide_Mul g_wide_Add g_root_end (@l_0) x0 x1 x2 w0 (fun (d : Int × Bool) => some (Res.mk (AV.r (RV.c (CV.f (FV.i IntKind.i64 d.1)))) [Ch.set [Sg.c (CV.f (FV.b d.2))], Ch.keep] [])) := by kernel_rfl
theorem m_root_Hypot {ρ σ : Type} (q : ρ → Option σ) (g___fx_Acc__Sat : Int → Bool → Option (Int × Bool)) (g_wide_Mul : Int → Int → Option (Int × Int)) (g_wide_Add : Nat → (Nat → Int) → (Nat → Int) → Bool → Option (Int × Int × Bool)) (g_root_end : Int → Int → Bool → Option (Int × Bool)) (l_0 : ∀ {ρ : Type}, (Nat × Bool × Int × Int × Bool × Nat × (Nat → Int) × Int × Int) → ((Nat × Bool × Int × Int × Bool × Bool × Nat × (Nat → Int) × Int × Int) → Option ρ) → Option ρ) (hl_0 : ∀ {ρ σ : Type} (q : ρ → Option σ) (d : Nat × Bool × Int × Int × Bool × Nat × (Nat → Int) × Int × Int) (k : (Nat × Bool × Int × Int × Bool × Bool × Nat × (Nat → Int) × Int × Int) → Option ρ), (l_0 d k).bind q = l_0 d fun x => (k x).bind q) (x0 : Nat) (x1 : Bool) (x2 : Nat → Int) (w0 : Bool) (k : (Int × Bool) → Option ρ) : (K_root_Hypot g___fx_Acc__Sat g_wide_Mul g_wide_Add g_root_end (@l_0) x0 x1 x2 w0 k).bind q = K_root_Hypot g___fx_Acc__Sat g_wide_Mul g_wide_Add g_root_end (@l_0) x0 x1 x2 w0 (fun d => (k d).bind q) := by
  simp only [K_root_Hypot, bnd_cond, bnd_bind, bnd_none, bnd_sum, hl_0]
theorem qa_root_Hypot : ∀ b, (QA_root_Hypot).em b = ([.r (.c (.ptr 0 (.k 0) 1)), .r (.c (.sl 1 (.k 0) (.s b.1.2.1.2.2.1) 1 b.1.2.1.2.2.2.2))], [[.c (.f (.b b.2.1.1))], [.a (.s b.2.2.1.1.1) [.i .i64 b.2.2.1.1.2.1]]]) := fun b => by kernel_rfl
theorem e_root_Hypot {f : (Nat) → (Bool) → (Nat → Int) → (Bool) → Option (Int × Bool)} {args : List AV} {h : List Blk} {r : Res} (hr : (F0_root_Hypot f args h).eval = some r) : ∃ x0 x1 x2 w0, args = [.r (.c (.ptr 0 (.k 0) 1)), .r (.c (.sl 1 (.k 0) (.s x0) 1 w0))] ∧ h = [[.c (.f (.b x1))], [.a (.s x0) [.i .i64 x2]]] ∧ (f x0 x1 x2 w0).bind (fun (d : Int × Bool) => some (Res.mk (AV.r (RV.c (CV.f (FV.i IntKind.i64 d.1)))) [Ch.set [Sg.c (CV.f (FV.b d.2))], Ch.keep] [])) = some r := by
  unfold F0_root_Hypot at hr
  split at hr
  · rename_i b hb
    have e := ((QA_root_Hypot).ok _ _ hb).trans (qa_root_Hypot b)
    obtain ⟨he, hr1⟩ := test_eval hr
    clear hr
    have hr := hr1
    clear hr1
    rw [Nat.eq_of_beq_eq_true he] at e
    clear he
    rw [opt_eval2] at hr
    exact ⟨b.1.2.1.2.2.1, b.2.1.1, b.2.2.1.1.2.1, b.1.2.1.2.2.2.2, (Prod.mk.inj e).1, (Prod.mk.inj e).2, hr⟩
  · cases hr
theorem n_root_Hypot {σ : Type} (q : (Int × Bool) → Option σ) (x0 : Nat) (x1 : Bool) (x2 : Nat → Int) (w0 : Bool) : (f_root_Hypot x0 x1 x2 w0).bind q = K_root_Hypot f___fx_Acc__Sat f_wide_Mul f_wide_Add f_root_end (@L_root_Hypot_0) x0 x1 x2 w0 q := by
  unfold f_root_Hypot
  exact m_root_Hypot q f___fx_Acc__Sat f_wide_Mul f_wide_Add f_root_end (@L_root_Hypot_0) (fun q d k => mL_root_Hypot_0 q d k) x0 x1 x2 w0 some
theorem s_root_Hypot : Sound Try.prog 64 (F_root_Hypot f_root_Hypot) :=
  Sound.nil 1 [.i .i64] <| (inl_sums (l := [(52, F___fx_Acc__Sat f___fx_Acc__Sat), (70, F_wide_Mul f_wide_Mul), (66, F_wide_Add f_wide_Add), (82, F_root_end f_root_end)]) (.cons s___fx_Acc__Sat (.cons s_wide_Mul (.cons s_wide_Add (.cons s_root_end (.nil _))))) mixed (hs := ⟨[⟨3, [1, 2, 3, 4, 6, 7, 8, 9, 10, 11, 15, 16, 17, 18, 19, 20, 21, 22, 23, 24, 25, 26, 27, 28, 29, 30, 31, 32, 33], []⟩], [⟨3, 2, @R_root_Hypot_0 (@L_root_Hypot_0)⟩], [0], [], none⟩) (lf := 200) (Sums.by (l := [loopIn Try.prog 64 3]) (lj := []) (by kernel_rfl) ⟨so_root_Hypot_0, trivial⟩ (by kernel_rfl) trivial) (by kernel_rfl)).by (F := F0_root_Hypot f_root_Hypot) fun args b r hr => by
  obtain ⟨x0, x1, x2, w0, rfl, rfl, hr1⟩ := e_root_Hypot hr
  exact inl_eval ((d_root_Hypot f___fx_Acc__Sat f_wide_Mul f_wide_Add f_root_end (@L_root_Hypot_0) x0 x1 x2 w0).trans ((n_root_Hypot (fun (d : Int × Bool) => some (Res.mk (AV.r (RV.c (CV.f (FV.i IntKind.i64 d.1)))) [Ch.set [Sg.c (CV.f (FV.b d.2))], Ch.keep] [])) x0 x1 x2 w0).symm.trans hr1))

def K___fx_Acc__Sub {ρ : Type} (g___fx_Acc__Sat : Int → Bool → Option (Int × Bool))  (x0 : Int) (x1 : Int) (x2 : Bool) (k : (Int × Bool) → Option ρ) : Option ρ :=
  Option.bind (g___fx_Acc__Sat x0 x2) fun (d : Int × Bool) =>
    Option.bind (g___fx_Acc__Sat x1 d.2) fun (d_1 : Int × Bool) => Option.bind (g___fx_Acc__Sat (IntKind.wrap IntKind.i64 (d.1 - d_1.1)) d_1.2) fun (d : Int × Bool) => k (d.1, d.2)
def f___fx_Acc__Sub (x0 : Int) (x1 : Int) (x2 : Bool) : Option (Int × Bool) := K___fx_Acc__Sub f___fx_Acc__Sat  x0 x1 x2 some
section
open Go.Ab.Rdr
def QA___fx_Acc__Sub := ((pair (cons (ar (rc (cptr (nat 0) (ok' (nat 0)) (nat 1)))) (cons (ar (rc (cf (fi .i64 hole)))) (cons (ar (rc (cf (fi .i64 hole)))) nil))) (cons (cons (gc (cf (fb hole))) nil) nil)) : Rdr (List AV × List Blk) _)
end
def F___fx_Acc__Sub (f : (Int) → (Int) → (Bool) → Option (Int × Bool)) : Sem1 := fun args h => match (QA___fx_Acc__Sub).rd (args, h) with
  | some b => .opt (f b.1.2.1 b.1.2.2.1 b.2.1.1) fun (d : Int × Bool) => .leaf (Res.mk (AV.r (RV.c (CV.f (FV.i IntKind.i64 d.1)))) [Ch.set [Sg.c (CV.f (FV.b d.2))]] [])
  | none => .fail
theorem d___fx_Acc__Sub (g___fx_Acc__Sat : Int → Bool → Option (Int × Bool))  (x0 : Int) (x1 : Int) (x2 : Bool) : den Try.prog (envOf [(52, F___fx_Acc__Sat g___fx_Acc__Sat)]) ⟨[], [], [], [], none⟩ 200 54 [.r (.c (.ptr 0 (.k 0) 1)), .r (.c (.f (.i .i64 x0))), .r (.c (.f (.i .i64 x1)))] [[.c (.f (.b x2))]] =
    K___fx_Acc__Sub g___fx_Acc__Sat  x0 x1 x2 (fun (d : Int × Bool) => some (Res.mk (AV.r (RV.c (CV.f (FV.i IntKind.i64 d.1)))) [Ch.set [Sg.c (CV.f (FV.b d.2))]] [])) := by kernel_rfl
theorem m___fx_Acc__Sub {ρ σ : Type} (q : ρ → Option σ) (g___fx_Acc__Sat : Int → Bool → Option (Int × Bool))   (x0 : Int) (x1 : Int) (x2 : Bool) (k : (Int × Bool) → Option ρ) : (K___fx_Acc__Sub g___fx_Acc__Sat  x0 x1 x2 k).bind q = K___fx_Acc__Sub g___fx_Acc__Sat  x0 x1 x2 (fun d => (k d).bind q) := by
  simp only [K___fx_Acc__Sub, bnd_cond, bnd_bind, bnd_none, bnd_sum]
theorem qa___fx_Acc__Sub : ∀ b, (QA___fx_Acc__Sub).em b = ([.r (.c (.ptr 0 (.k 0) 1)), .r (.c (.f (.i .i64 b.1.2.1))), .r (.c (.f (.i .i64 b.1.2.2.1)))], [[.c (.f (.b b.2.1.1))]]) := fun b => by kernel_rfl
theorem e___fx_Acc__Sub {f : (Int) → (Int) → (Bool) → Option (Int × Bool)} {args : List AV} {h : List Blk} {r : Res} (hr : (F___fx_Acc__Sub f args h).eval = some r) : ∃ x0 x1 x2, args = [.r (.c (.ptr 0 (.k 0) 1)), .r (.c (.f (.i .i64 x0))), .r (.c (.f (.i .i64 x1)))] ∧ h = [[.c (.f (.b x2))]] ∧ (f x0 x1 x2).bind (fun (d : Int × Bool) => some (Res.mk (AV.r (RV.c (CV.f (FV.i IntKind.i64 d.1)))) [Ch.set [Sg.c (CV.f (FV.b d.2))]] [])) = some r := by
  unfold F___fx_Acc__Sub at hr
  split at hr
  · rename_i b hb
    have e := ((QA___fx_Acc__Sub).ok _ _ hb).trans (qa___fx_Acc__Sub b)
    rw [opt_eval2] at hr
    exact ⟨b.1.2.1, b.1.2.2.1, b.2.1.1, (Prod.mk.inj e).1, (Prod.mk.inj e).2, hr⟩
  · cases hr
theorem n___fx_Acc__Sub {σ : Type} (q : (Int × Bool) → Option σ) (x0 : Int) (x1 : Int) (x2 : Bool) : (f___fx_Acc__Sub x0 x1 x2).bind q = K___fx_Acc__Sub f___fx_Acc__Sat  x0 x1 x2 q := by
  unfold f___fx_Acc__Sub
  exact m___fx_Acc__Sub q f___fx_Acc__Sat   x0 x1 x2 some
theorem s___fx_Acc__Sub : Sound Try.prog 54 (F___fx_Acc__Sub f___fx_Acc__Sub) :=
  (inl_sound (l := [(52, F___fx_Acc__Sat f___fx_Acc__Sat)]) (.cons s___fx_Acc__Sat (.nil _)) mixed [] [] 200 (by kernel_rfl)).by (F := F___fx_Acc__Sub f___fx_Acc__Sub) fun args b r hr => by
  obtain ⟨x0, x1, x2, rfl, rfl, hr1⟩ := e___fx_Acc__Sub hr
  exact inl_eval ((d___fx_Acc__Sub f___fx_Acc__Sat  x0 x1 x2).trans ((n___fx_Acc__Sub (fun (d : Int × Bool) => some (Res.mk (AV.r (RV.c (CV.f (FV.i IntKind.i64 d.1)))) [Ch.set [Sg.c (CV.f (FV.b d.2))]] [])) x0 x1 x2).symm.trans hr1))

def K_vec_Sub {ρ : Type} (g___fx_Acc__Sub : Int → Int → Bool → Option (Int × Bool))  (x0 : Int) (x1 : Int) (x2 : Int) (x3 : Int) (x4 : Int) (x5 : Int) (x6 : Bool) (k : (Int × Int × Int × Bool) → Option ρ) : Option ρ :=
  Option.bind (g___fx_Acc__Sub x0 x3 x6) fun (d : Int × Bool) =>
    Option.bind (g___fx_Acc__Sub x1 x4 d.2) fun (d_1 : Int × Bool) => Option.bind (g___fx_Acc__Sub x2 x5 d_1.2) fun (d_2 : Int × Bool) => k (d.1, d_1.1, d_2.1, d_2.2)
def f_vec_Sub (x0 : Int) (x1 : Int) (x2 : Int) (x3 : Int) (x4 : Int) (x5 : Int) (x6 : Bool) : Option (Int × Int × Int × Bool) := K_vec_Sub f___fx_Acc__Sub  x0 x1 x2 x3 x4 x5 x6 some
section
open Go.Ab.Rdr
def QA_vec_Sub := ((pair (cons (ar (rc (cptr (nat 0) (ok' (nat 0)) (nat 1)))) (cons (ar (ra (cons (gc (cf (fi .i64 hole))) (cons (gc (cf (fi .i64 hole))) (cons (gc (cf (fi .i64 hole))) nil))))) (cons (ar (ra (cons (gc (cf (fi .i64 hole))) (cons (gc (cf (fi .i64 hole))) (cons (gc (cf (fi .i64 hole))) nil))))) nil))) (cons (cons (gc (cf (fb hole))) nil) nil)) : Rdr (List AV × List Blk) _)
end
def F_vec_Sub (f : (Int) → (Int) → (Int) → (Int) → (Int) → (Int) → (Bool) → Option (Int × Int × Int × Bool)) : Sem1 := fun args h => match (QA_vec_Sub).rd (args, h) with
  | some b => .opt (f b.1.2.1.1 b.1.2.1.2.1 b.1.2.1.2.2.1 b.1.2.2.1.1 b.1.2.2.1.2.1 b.1.2.2.1.2.2.1 b.2.1.1) fun (d : Int × Int × Int × Bool) => .leaf (Res.mk (AV.r (RV.agg [Sg.c (CV.f (FV.i IntKind.i64 d.1)), Sg.c (CV.f (FV.i IntKind.i64 d.2.1)), Sg.c (CV.f (FV.i IntKind.i64 d.2.2.1))])) [Ch.set [Sg.c (CV.f (FV.b d.2.2.2))]] [])
  | none => .fail
theorem d_vec_Sub (g___fx_Acc__Sub : Int → Int → Bool → Option (Int × Bool))  (x0 : Int) (x1 : Int) (x2 : Int) (x3 : Int) (x4 : Int) (x5 : Int) (x6 : Bool) : den Try.prog (envOf [(54, F___fx_Acc__Sub g___fx_Acc__Sub)]) ⟨[], [], [], [], none⟩ 200 34 [.r (.c (.ptr 0 (.k 0) 1)), .r (.agg [.c (.f (.i .i64 x0)), .c (.f (.i .i64 x1)), .c (.f (.i .i64 x2))]), .r (.agg [.c (.f (.i .i64 x3)), .c (.f (.i .i64 x4)), .c (.f (.i .i64 x5))])] [[.c (.f (.b x6))]] =
    K_vec_Sub g___fx_Acc__Sub  x0 x1 x2 x3 x4 x5 x6 (fun (d : Int × Int × Int × Bool) => some (Res.mk (AV.r (RV.agg [Sg.c (CV.f (FV.i IntKind.i64 d.1)), Sg.c (CV.f (FV.i IntKind.i64 d.2.1)), Sg.c (CV.f (FV.i IntKind.i64 d.2.2.1))])) [Ch.set [Sg.c (CV.f (FV.b d.2.2.2))]] [])) := by kernel_rfl
theorem m_vec_Sub {ρ σ : Type} (q : ρ → Option σ) (g___fx_Acc__Sub : Int → Int → Bool → Option (Int × Bool))   (x0 : Int) (x1 : Int) (x2 : Int) (x3 : Int) (x4 : Int) (x5 : Int) (x6 : Bool) (k : (Int × Int × Int × Bool) → Option ρ) : (K_vec_Sub g___fx_Acc__Sub  x0 x1 x2 x3 x4 x5 x6 k).bind q = K_vec_Sub g___fx_Acc__Sub  x0 x1 x2 x3 x4 x5 x6 (fun d => (k d).bind q) := by
  simp only [K_vec_Sub, bnd_cond, bnd_bind, bnd_none, bnd_sum]
theorem qa_vec_Sub : ∀ b, (QA_vec_Sub).em b = ([.r (.c (.ptr 0 (.k 0) 1)), .r (.agg [.c (.f (.i .i64 b.1.2.1.1)), .c (.f (.i .i64 b.1.2.1.2.1)), .c (.f (.i .i64 b.1.2.1.2.2.1))]), .r (.agg [.c (.f (.i .i64 b.1.2.2.1.1)), .c (.f (.i .i64 b.1.2.2.1.2.1)), .c (.f (.i .i64 b.1.2.2.1.2.2.1))])], [[.c (.f (.b b.2.1.1))]]) := fun b => by kernel_rfl
theorem e_vec_Sub {f : (Int) → (Int) → (Int) → (Int) → (Int) → (Int) → (Bool) → Option (Int × Int × Int × Bool)} {args : List AV} {h : List Blk} {r : Res} (hr : (F_vec_Sub f args h).eval = some r) : ∃ x0 x1 x2 x3 x4 x5 x6, args = [.r (.c (.ptr 0 (.k 0) 1)), .r (.agg [.c (.f (.i .i64 x0)), .c (.f (.i .i64 x1)), .c (.f (.i .i64 x2))]), .r (.agg [.c (.f (.i .i64 x3)), .c (.f (.i .i64 x4)), .c (.f (.i .i64 x5))])] ∧ h = [[.c (.f (.b x6))]] ∧ (f x0 x1 x2 x3 x4 x5 x6).bind (fun (d : Int × Int × Int × Bool) => some (Res.mk (AV.r (RV.agg [Sg.c (CV.f (FV.i IntKind.i64 d.1)), Sg.c (CV.f (FV.i IntKind.i64 d.2.1)), Sg.c (CV.f (FV.i IntKind.i64 d.2.2.1))])) [Ch.set [Sg.c (CV.f (FV.b d.2.2.2))]] [])) = some r := by
  unfold F_vec_Sub at hr
  split at hr
  · rename_i b hb
    have e := ((QA_vec_Sub).ok _ _ hb).trans (qa_vec_Sub b)
    rw [opt_eval2] at hr
    exact ⟨b.1.2.1.1, b.1.2.1.2.1, b.1.2.1.2.2.1, b.1.2.2.1.1, b.1.2.2.1.2.1, b.1.2.2.1.2.2.1, b.2.1.1, (Prod.mk.inj e).1, (Prod.mk.inj e).2, hr⟩
  · cases hr
theorem n_vec_Sub {σ : Type} (q : (Int × Int × Int × Bool) → Option σ) (x0 : Int) (x1 : Int) (x2 : Int) (x3 : Int) (x4 : Int) (x5 : Int) (x6 : Bool) : (f_vec_Sub x0 x1 x2 x3 x4 x5 x6).bind q = K_vec_Sub f___fx_Acc__Sub  x0 x1 x2 x3 x4 x5 x6 q := by
  unfold f_vec_Sub
  exact m_vec_Sub q f___fx_Acc__Sub   x0 x1 x2 x3 x4 x5 x6 some
theorem s_vec_Sub : Sound Try.prog 34 (F_vec_Sub f_vec_Sub) :=
  (inl_sound (l := [(54, F___fx_Acc__Sub f___fx_Acc__Sub)]) (.cons s___fx_Acc__Sub (.nil _)) mixed [] [] 200 (by kernel_rfl)).by (F := F_vec_Sub f_vec_Sub) fun args b r hr => by
  obtain ⟨x0, x1, x2, x3, x4, x5, x6, rfl, rfl, hr1⟩ := e_vec_Sub hr
  exact inl_eval ((d_vec_Sub f___fx_Acc__Sub  x0 x1 x2 x3 x4 x5 x6).trans ((n_vec_Sub (fun (d : Int × Int × Int × Bool) => some (Res.mk (AV.r (RV.agg [Sg.c (CV.f (FV.i IntKind.i64 d.1)), Sg.c (CV.f (FV.i IntKind.i64 d.2.1)), Sg.c (CV.f (FV.i IntKind.i64 d.2.2.1))])) [Ch.set [Sg.c (CV.f (FV.b d.2.2.2))]] [])) x0 x1 x2 x3 x4 x5 x6).symm.trans hr1))

def K_vec_Sat {ρ : Type} (g___fx_Acc__Sat : Int → Bool → Option (Int × Bool))  (x0 : Int) (x1 : Int) (x2 : Int) (x3 : Bool) (k : (Int × Int × Int × Bool) → Option ρ) : Option ρ :=
  Option.bind (g___fx_Acc__Sat x0 x3) fun (d : Int × Bool) =>
    Option.bind (g___fx_Acc__Sat x1 d.2) fun (d_1 : Int × Bool) => Option.bind (g___fx_Acc__Sat x2 d_1.2) fun (d_2 : Int × Bool) => k (d.1, d_1.1, d_2.1, d_2.2)
def f_vec_Sat (x0 : Int) (x1 : Int) (x2 : Int) (x3 : Bool) : Option (Int × Int × Int × Bool) := K_vec_Sat f___fx_Acc__Sat  x0 x1 x2 x3 some
section
open Go.Ab.Rdr
def QA_vec_Sat := ((pair (cons (ar (rc (cptr (nat 0) (ok' (nat 0)) (nat 1)))) (cons (ar (ra (cons (gc (cf (fi .i64 hole))) (cons (gc (cf (fi .i64 hole))) (cons (gc (cf (fi .i64 hole))) nil))))) nil)) (cons (cons (gc (cf (fb hole))) nil) nil)) : Rdr (List AV × List Blk) _)
end
def F_vec_Sat (f : (Int) → (Int) → (Int) → (Bool) → Option (Int × Int × Int × Bool)) : Sem1 := fun args h => match (QA_vec_Sat).rd (args, h) with
  | some b => .opt (f b.1.2.1.1 b.1.2.1.2.1 b.1.2.1.2.2.1 b.2.1.1) fun (d : Int × Int × Int × Bool) => .leaf (Res.mk (AV.r (RV.agg [Sg.c (CV.f (FV.i IntKind.i64 d.1)), Sg.c (CV.f (FV.i IntKind.i64 d.2.1)), Sg.c (CV.f (FV.i IntKind.i64 d.2.2.1))])) [Ch.set [Sg.c (CV.f (FV.b d.2.2.2))]] [])
  | none => .fail
theorem d_vec_Sat (g___fx_Acc__Sat : Int → Bool → Option (Int × Bool))  (x0 : Int) (x1 : Int) (x2 : Int) (x3 : Bool) : den Try.prog (envOf [(52, F___fx_Acc__Sat g___fx_Acc__Sat)]) ⟨[], [], [], [], none⟩ 200 32 [.r (.c (.ptr 0 (.k 0) 1)), .r (.agg [.c (.f (.i .i64 x0)), .c (.f (.i .i64 x1)), .c (.f (.i .i64 x2))])] [[.c (.f (.b x3))]] =
    K_vec_Sat g___fx_Acc__Sat  x0 x1 x2 x3 (fun (d : Int × Int × Int × Bool) => some (Res.mk (AV.r (RV.agg [Sg.c (CV.f (FV.i IntKind.i64 d.1)), Sg.c (CV.f (FV.i IntKind.i64 d.2.1)), Sg.c (CV.f (FV.i IntKind.i64 d.2.2.1))])) [Ch.set [Sg.c (CV.f (FV.b d.2.2.2))]] [])) := by kernel_rfl
theorem m_vec_Sat {ρ σ : Type} (q : ρ → Option σ) (g___fx_Acc__Sat : Int → Bool → Option (Int × Bool))   (x0 : Int) (x1 : Int) (x2 : Int) (x3 : Bool) (k : (Int × Int × Int × Bool) → Option ρ) : (K_vec_Sat g___fx_Acc__Sat  x0 x1 x2 x3 k).bind q = K_vec_Sat g___fx_Acc__Sat  x0 x1 x2 x3 (fun d => (k d).bind q) := by
  simp only [K_vec_Sat, bnd_cond, bnd_bind, bnd_none, bnd_sum]
theorem qa_vec_Sat : ∀ b, (QA_vec_Sat).em b = ([.r (.c (.ptr 0 (.k 0) 1)), .r (.agg [.c (.f (.i .i64 b.1.2.1.1)), .c (.f (.i .i64 b.1.2.1.2.1)), .c (.f (.i .i64 b.1.2.1.2.2.1))])], [[.c (.f (.b b.2.1.1))]]) := fun b => by kernel_rfl
theorem e_vec_Sat {f : (Int) → (Int) → (Int) → (Bool) → Option (Int × Int × Int × Bool)} {args : List AV} {h : List Blk} {r : Res} (hr : (F_vec_Sat f args h).eval = some r) : ∃ x0 x1 x2 x3, args = [.r (.c (.ptr 0 (.k 0) 1)), .r (.agg [.c (.f (.i .i64 x0)), .c (.f (.i .i64 x1)), .c (.f (.i .i64 x2))])] ∧ h = [[.c (.f (.b x3))]] ∧ (f x0 x1 x2 x3).bind (fun (d : Int × Int × Int × Bool) => some (Res.mk (AV.r (RV.agg [Sg.c (CV.f (FV.i IntKind.i64 d.1)), Sg.c (CV.f (FV.i IntKind.i64 d.2.1)), Sg.c (CV.f (FV.i IntKind.i64 d.2.2.1))])) [Ch.set [Sg.c (CV.f (FV.b d.2.2.2))]] [])) = some r := by
  unfold F_vec_Sat at hr
  split at hr
  · rename_i b hb
    have e := ((QA_vec_Sat).ok _ _ hb).trans (qa_vec_Sat b)
    rw [opt_eval2] at hr
    exact ⟨b.1.2.1.1, b.1.2.1.2.1, b.1.2.1.2.2.1, b.2.1.1, (Prod.mk.inj e).1, (Prod.mk.inj e).2, hr⟩
  · cases hr
theorem n_vec_Sat {σ : Type} (q : (Int × Int × Int × Bool) → Option σ) (x0 : Int) (x1 : Int) (x2 : Int) (x3 : Bool) : (f_vec_Sat x0 x1 x2 x3).bind q = K_vec_Sat f___fx_Acc__Sat  x0 x1 x2 x3 q := by
  unfold f_vec_Sat
  exact m_vec_Sat q f___fx_Acc__Sat   x0 x1 x2 x3 some
theorem s_vec_Sat : Sound Try.prog 32 (F_vec_Sat f_vec_Sat) :=
  (inl_sound (l := [(52, F___fx_Acc__Sat f___fx_Acc__Sat)]) (.cons s___fx_Acc__Sat (.nil _)) mixed [] [] 200 (by kernel_rfl)).by (F := F_vec_Sat f_vec_Sat) fun args b r hr => by
  obtain ⟨x0, x1, x2, x3, rfl, rfl, hr1⟩ := e_vec_Sat hr
  exact inl_eval ((d_vec_Sat f___fx_Acc__Sat  x0 x1 x2 x3).trans ((n_vec_Sat (fun (d : Int × Int × Int × Bool) => some (Res.mk (AV.r (RV.agg [Sg.c (CV.f (FV.i IntKind.i64 d.1)), Sg.c (CV.f (FV.i IntKind.i64 d.2.1)), Sg.c (CV.f (FV.i IntKind.i64 d.2.2.1))])) [Ch.set [Sg.c (CV.f (FV.b d.2.2.2))]] [])) x0 x1 x2 x3).symm.trans hr1))

def K_vec_Scale {ρ : Type} (g___fx_Acc__Mul : Int → Int → Int → Bool → Option (Int × Bool))  (x0 : Int) (x1 : Int) (x2 : Int) (x3 : Int) (x4 : Bool) (k : (Int × Int × Int × Bool) → Option ρ) : Option ρ :=
  Option.bind (g___fx_Acc__Mul x0 x3 30 x4) fun (d : Int × Bool) =>
    Option.bind (g___fx_Acc__Mul x1 x3 30 d.2) fun (d_1 : Int × Bool) => Option.bind (g___fx_Acc__Mul x2 x3 30 d_1.2) fun (d_2 : Int × Bool) => k (d.1, d_1.1, d_2.1, d_2.2)
def f_vec_Scale (x0 : Int) (x1 : Int) (x2 : Int) (x3 : Int) (x4 : Bool) : Option (Int × Int × Int × Bool) := K_vec_Scale f___fx_Acc__Mul  x0 x1 x2 x3 x4 some
section
open Go.Ab.Rdr
def QA_vec_Scale := ((pair (cons (ar (rc (cptr (nat 0) (ok' (nat 0)) (nat 1)))) (cons (ar (ra (cons (gc (cf (fi .i64 hole))) (cons (gc (cf (fi .i64 hole))) (cons (gc (cf (fi .i64 hole))) nil))))) (cons (ar (rc (cf (fi .i64 hole)))) nil))) (cons (cons (gc (cf (fb hole))) nil) nil)) : Rdr (List AV × List Blk) _)
end
def F_vec_Scale (f : (Int) → (Int) → (Int) → (Int) → (Bool) → Option (Int × Int × Int × Bool)) : Sem1 := fun args h => match (QA_vec_Scale).rd (args, h) with
  | some b => .opt (f b.1.2.1.1 b.1.2.1.2.1 b.1.2.1.2.2.1 b.1.2.2.1 b.2.1.1) fun (d : Int × Int × Int × Bool) => .leaf (Res.mk (AV.r (RV.agg [Sg.c (CV.f (FV.i IntKind.i64 d.1)), Sg.c (CV.f (FV.i IntKind.i64 d.2.1)), Sg.c (CV.f (FV.i IntKind.i64 d.2.2.1))])) [Ch.set [Sg.c (CV.f (FV.b d.2.2.2))]] [])
  | none => .fail
theorem d_vec_Scale (g___fx_Acc__Mul : Int → Int → Int → Bool → Option (Int × Bool))  (x0 : Int) (x1 : Int) (x2 : Int) (x3 : Int) (x4 : Bool) : den Try.prog (envOf [(46, F___fx_Acc__Mul g___fx_Acc__Mul)]) ⟨[], [], [], [], none⟩ 200 36 [.r (.c (.ptr 0 (.k 0) 1)), .r (.agg [.c (.f (.i .i64 x0)), .c (.f (.i .i64 x1)), .c (.f (.i .i64 x2))]), .r (.c (.f (.i .i64 x3)))] [[.c (.f (.b x4))]] =
    K_vec_Scale g___fx_Acc__Mul  x0 x1 x2 x3 x4 (fun (d : Int × Int × Int × Bool) => some (Res.mk (AV.r (RV.agg [Sg.c (CV.f (FV.i IntKind.i64 d.1)), Sg.c (CV.f (FV.i IntKind.i64 d.2.1)), Sg.c (CV.f (FV.i IntKind.i64 d.2.2.1))])) [Ch.set [Sg.c (CV.f (FV.b d.2.2.2))]] [])) := by kernel_rfl
theorem m_vec_Scale {ρ σ : Type} (q : ρ → Option σ) (g___fx_Acc__Mul : Int → Int → Int → Bool → Option (Int × Bool))   (x0 : Int) (x1 : Int) (x2 : Int) (x3 : Int) (x4 : Bool) (k : (Int × Int × Int × Bool) → Option ρ) : (K_vec_Scale g___fx_Acc__Mul  x0 x1 x2 x3 x4 k).bind q = K_vec_Scale g___fx_Acc__Mul  x0 x1 x2 x3 x4 (fun d => (k d).bind q) := by
  simp only [K_vec_Scale, bnd_cond, bnd_bind, bnd_none, bnd_sum]
theorem qa_vec_Scale : ∀ b, (QA_vec_Scale).em b = ([.r (.c (.ptr 0 (.k 0) 1)), .r (.agg [.c (.f (.i .i64 b.1.2.1.1)), .c (.f (.i .i64 b.1.2.1.2.1)), .c (.f (.i .i64 b.1.2.1.2.2.1))]), .r (.c (.f (.i .i64 b.1.2.2.1)))], [[.c (.f (.b b.2.1.1))]]) := fun b => by kernel_rfl
theorem e_vec_Scale {f : (Int) → (Int) → (Int) → (Int) → (Bool) → Option (Int × Int × Int × Bool)} {args : List AV} {h : List Blk} {r : Res} (hr : (F_vec_Scale f args h).eval = some r) : ∃ x0 x1 x2 x3 x4, args = [.r (.c (.ptr 0 (.k 0) 1)), .r (.agg [.c (.f (.i .i64 x0)), .c (.f (.i .i64 x1)), .c (.f (.i .i64 x2))]), .r (.c (.f (.i .i64 x3)))] ∧ h = [[.c (.f (.b x4))]] ∧ (f x0 x1 x2 x3 x4).bind (fun (d : Int × Int × Int × Bool) => some (Res.mk (AV.r (RV.agg [Sg.c (CV.f (FV.i IntKind.i64 d.1)), Sg.c (CV.f (FV.i IntKind.i64 d.2.1)), Sg.c (CV.f (FV.i IntKind.i64 d.2.2.1))])) [Ch.set [Sg.c (CV.f (FV.b d.2.2.2))]] [])) = some r := by
  unfold F_vec_Scale at hr
  split at hr
  · rename_i b hb
    have e := ((QA_vec_Scale).ok _ _ hb).trans (qa_vec_Scale b)
    rw [opt_eval2] at hr
    exact ⟨b.1.2.1.1, b.1.2.1.2.1, b.1.2.1.2.2.1, b.1.2.2.1, b.2.1.1, (Prod.mk.inj e).1, (Prod.mk.inj e).2, hr⟩
  · cases hr
theorem n_vec_Scale {σ : Type} (q : (Int × Int × Int × Bool) → Option σ) (x0 : Int) (x1 : Int) (x2 : Int) (x3 : Int) (x4 : Bool) : (f_vec_Scale x0 x1 x2 x3 x4).bind q = K_vec_Scale f___fx_Acc__Mul  x0 x1 x2 x3 x4 q := by
  unfold f_vec_Scale
  exact m_vec_Scale q f___fx_Acc__Mul   x0 x1 x2 x3 x4 some
theorem s_vec_Scale : Sound Try.prog 36 (F_vec_Scale f_vec_Scale) :=
  (inl_sound (l := [(46, F___fx_Acc__Mul f___fx_Acc__Mul)]) (.cons s___fx_Acc__Mul (.nil _)) mixed [] [] 200 (by kernel_rfl)).by (F := F_vec_Scale f_vec_Scale) fun args b r hr => by
  obtain ⟨x0, x1, x2, x3, x4, rfl, rfl, hr1⟩ := e_vec_Scale hr
  exact inl_eval ((d_vec_Scale f___fx_Acc__Mul  x0 x1 x2 x3 x4).trans ((n_vec_Scale (fun (d : Int × Int × Int × Bool) => some (Res.mk (AV.r (RV.agg [Sg.c (CV.f (FV.i IntKind.i64 d.1)), Sg.c (CV.f (FV.i IntKind.i64 d.2.1)), Sg.c (CV.f (FV.i IntKind.i64 d.2.2.1))])) [Ch.set [Sg.c (CV.f (FV.b d.2.2.2))]] [])) x0 x1 x2 x3 x4).symm.trans hr1))

def K_vec_Dot {ρ : Type} (g___fx_Acc__Dot : Int → Nat → Nat → Bool → (Nat → Int) → (Nat → Int) → Bool → Bool → Option (Int × Bool))  (x0 : Int) (x1 : Int) (x2 : Int) (x3 : Int) (x4 : Int) (x5 : Int) (x6 : Bool) (k : (Int × Bool) → Option ρ) : Option ρ :=
  Option.bind
    (g___fx_Acc__Dot 30 3 3 x6 (fun (j : Nat) => bif Nat.beq j 2 then x2 else bif Nat.beq j 1 then x1 else bif Nat.beq j 0 then x0 else x0)
      (fun (j : Nat) => bif Nat.beq j 2 then x5 else bif Nat.beq j 1 then x4 else bif Nat.beq j 0 then x3 else x3) false false)
    fun (d : Int × Bool) => k (d.1, d.2)
def f_vec_Dot (x0 : Int) (x1 : Int) (x2 : Int) (x3 : Int) (x4 : Int) (x5 : Int) (x6 : Bool) : Option (Int × Bool) := K_vec_Dot f___fx_Acc__Dot  x0 x1 x2 x3 x4 x5 x6 some
section
open Go.Ab.Rdr
def QA_vec_Dot := ((pair (cons (ar (rc (cptr (nat 0) (ok' (nat 0)) (nat 1)))) (cons (ar (ra (cons (gc (cf (fi .i64 hole))) (cons (gc (cf (fi .i64 hole))) (cons (gc (cf (fi .i64 hole))) nil))))) (cons (ar (ra (cons (gc (cf (fi .i64 hole))) (cons (gc (cf (fi .i64 hole))) (cons (gc (cf (fi .i64 hole))) nil))))) nil))) (cons (cons (gc (cf (fb hole))) nil) nil)) : Rdr (List AV × List Blk) _)
end
def F_vec_Dot (f : (Int) → (Int) → (Int) → (Int) → (Int) → (Int) → (Bool) → Option (Int × Bool)) : Sem1 := fun args h => match (QA_vec_Dot).rd (args, h) with
  | some b => .opt (f b.1.2.1.1 b.1.2.1.2.1 b.1.2.1.2.2.1 b.1.2.2.1.1 b.1.2.2.1.2.1 b.1.2.2.1.2.2.1 b.2.1.1) fun (d : Int × Bool) => .leaf (Res.mk (AV.r (RV.c (CV.f (FV.i IntKind.i64 d.1)))) [Ch.set [Sg.c (CV.f (FV.b d.2))]] [])
  | none => .fail
theorem d_vec_Dot (g___fx_Acc__Dot : Int → Nat → Nat → Bool → (Nat → Int) → (Nat → Int) → Bool → Bool → Option (Int × Bool))  (x0 : Int) (x1 : Int) (x2 : Int) (x3 : Int) (x4 : Int) (x5 : Int) (x6 : Bool) : den Try.prog (envOf [(57, F___fx_Acc__Dot g___fx_Acc__Dot)]) ⟨[], [], [], [], none⟩ 200 38 [.r (.c (.ptr 0 (.k 0) 1)), .r (.agg [.c (.f (.i .i64 x0)), .c (.f (.i .i64 x1)), .c (.f (.i .i64 x2))]), .r (.agg [.c (.f (.i .i64 x3)), .c (.f (.i .i64 x4)), .c (.f (.i .i64 x5))])] [[.c (.f (.b x6))]] =
    K_vec_Dot g___fx_Acc__Dot  x0 x1 x2 x3 x4 x5 x6 (fun (d : Int × Bool) => some (Res.mk (AV.r (RV.c (CV.f (FV.i IntKind.i64 d.1)))) [Ch.set [Sg.c (CV.f (FV.b d.2))]] [])) := by kernel_rfl
theorem m_vec_Dot {ρ σ : Type} (q : ρ → Option σ) (g___fx_Acc__Dot : Int → Nat → Nat → Bool → (Nat → Int) → (Nat → Int) → Bool → Bool → Option (Int × Bool))   (x0 : Int) (x1 : Int) (x2 : Int) (x3 : Int) (x4 : Int) (x5 : Int) (x6 : Bool) (k : (Int × Bool) → Option ρ) : (K_vec_Dot g___fx_Acc__Dot  x0 x1 x2 x3 x4 x5 x6 k).bind q = K_vec_Dot g___fx_Acc__Dot  x0 x1 x2 x3 x4 x5 x6 (fun d => (k d).bind q) := by
  simp only [K_vec_Dot, bnd_cond, bnd_bind, bnd_none, bnd_sum]
theorem qa_vec_Dot : ∀ b, (QA_vec_Dot).em b = ([.r (.c (.ptr 0 (.k 0) 1)), .r (.agg [.c (.f (.i .i64 b.1.2.1.1)), .c (.f (.i .i64 b.1.2.1.2.1)), .c (.f (.i .i64 b.1.2.1.2.2.1))]), .r (.agg [.c (.f (.i .i64 b.1.2.2.1.1)), .c (.f (.i .i64 b.1.2.2.1.2.1)), .c (.f (.i .i64 b.1.2.2.1.2.2.1))])], [[.c (.f (.b b.2.1.1))]]) := fun b => by kernel_rfl
theorem e_vec_Dot {f : (Int) → (Int) → (Int) → (Int) → (Int) → (Int) → (Bool) → Option (Int × Bool)} {args : List AV} {h : List Blk} {r : Res} (hr : (F_vec_Dot f args h).eval = some r) : ∃ x0 x1 x2 x3 x4 x5 x6, args = [.r (.c (.ptr 0 (.k 0) 1)), .r (.agg [.c (.f (.i .i64 x0)), .c (.f (.i .i64 x1)), .c (.f (.i .i64 x2))]), .r (.agg [.c (.f (.i .i64 x3)), .c (.f (.i .i64 x4)), .c (.f (.i .i64 x5))])] ∧ h = [[.c (.f (.b x6))]] ∧ (f x0 x1 x2 x3 x4 x5 x6).bind (fun (d : Int × Bool) => some (Res.mk (AV.r (RV.c (CV.f (FV.i IntKind.i64 d.1)))) [Ch.set [Sg.c (CV.f (FV.b d.2))]] [])) = some r := by
  unfold F_vec_Dot at hr
  split at hr
  · rename_i b hb
    have e := ((QA_vec_Dot).ok _ _ hb).trans (qa_vec_Dot b)
    rw [opt_eval2] at hr
    exact ⟨b.1.2.1.1, b.1.2.1.2.1, b.1.2.1.2.2.1, b.1.2.2.1.1, b.1.2.2.1.2.1, b.1.2.2.1.2.2.1, b.2.1.1, (Prod.mk.inj e).1, (Prod.mk.inj e).2, hr⟩
  · cases hr
theorem n_vec_Dot {σ : Type} (q : (Int × Bool) → Option σ) (x0 : Int) (x1 : Int) (x2 : Int) (x3 : Int) (x4 : Int) (x5 : Int) (x6 : Bool) : (f_vec_Dot x0 x1 x2 x3 x4 x5 x6).bind q = K_vec_Dot f___fx_Acc__Dot  x0 x1 x2 x3 x4 x5 x6 q := by
  unfold f_vec_Dot
  exact m_vec_Dot q f___fx_Acc__Dot   x0 x1 x2 x3 x4 x5 x6 some
theorem s_vec_Dot : Sound Try.prog 38 (F_vec_Dot f_vec_Dot) :=
  (inl_sound (l := [(57, F___fx_Acc__Dot f___fx_Acc__Dot)]) (.cons s___fx_Acc__Dot (.nil _)) mixed [] [] 200 (by kernel_rfl)).by (F := F_vec_Dot f_vec_Dot) fun args b r hr => by
  obtain ⟨x0, x1, x2, x3, x4, x5, x6, rfl, rfl, hr1⟩ := e_vec_Dot hr
  exact inl_eval ((d_vec_Dot f___fx_Acc__Dot  x0 x1 x2 x3 x4 x5 x6).trans ((n_vec_Dot (fun (d : Int × Bool) => some (Res.mk (AV.r (RV.c (CV.f (FV.i IntKind.i64 d.1)))) [Ch.set [Sg.c (CV.f (FV.b d.2))]] [])) x0 x1 x2 x3 x4 x5 x6).symm.trans hr1))

def K_vec_Norm {ρ : Type} (g_root_Hypot : Nat → Bool → (Nat → Int) → Bool → Option (Int × Bool))  (x0 : Int) (x1 : Int) (x2 : Int) (x3 : Bool) (k : (Int × Bool) → Option ρ) : Option ρ :=
  Option.bind (g_root_Hypot 3 x3 (fun (j : Nat) => bif Nat.beq j 2 then x2 else bif Nat.beq j 1 then x1 else bif Nat.beq j 0 then x0 else x0) false) fun (d : Int × Bool) => k (d.1, d.2)
def f_vec_Norm (x0 : Int) (x1 : Int) (x2 : Int) (x3 : Bool) : Option (Int × Bool) := K_vec_Norm f_root_Hypot  x0 x1 x2 x3 some
section
open Go.Ab.Rdr
def QA_vec_Norm := ((pair (cons (ar (rc (cptr (nat 0) (ok' (nat 0)) (nat 1)))) (cons (ar (ra (cons (gc (cf (fi .i64 hole))) (cons (gc (cf (fi .i64 hole))) (cons (gc (cf (fi .i64 hole))) nil))))) nil)) (cons (cons (gc (cf (fb hole))) nil) nil)) : Rdr (List AV × List Blk) _)
end
def F_vec_Norm (f : (Int) → (Int) → (Int) → (Bool) → Option (Int × Bool)) : Sem1 := fun args h => match (QA_vec_Norm).rd (args, h) with
  | some b => .opt (f b.1.2.1.1 b.1.2.1.2.1 b.1.2.1.2.2.1 b.2.1.1) fun (d : Int × Bool) => .leaf (Res.mk (AV.r (RV.c (CV.f (FV.i IntKind.i64 d.1)))) [Ch.set [Sg.c (CV.f (FV.b d.2))]] [])
  | none => .fail
theorem d_vec_Norm (g_root_Hypot : Nat → Bool → (Nat → Int) → Bool → Option (Int × Bool))  (x0 : Int) (x1 : Int) (x2 : Int) (x3 : Bool) : den Try.prog (envOf [(64, F_root_Hypot g_root_Hypot)]) ⟨[], [], [], [], none⟩ 200 42 [.r (.c (.ptr 0 (.k 0) 1)), .r (.agg [.c (.f (.i .i64 x0)), .c (.f (.i .i64 x1)), .c (.f (.i .i64 x2))])] [[.c (.f (.b x3))]] =
    K_vec_Norm g_root_Hypot  x0 x1 x2 x3 (fun (d : Int × Bool) => some (Res.mk (AV.r (RV.c (CV.f (FV.i IntKind.i64 d.1)))) [Ch.set [Sg.c (CV.f (FV.b d.2))]] [])) := by kernel_rfl
theorem m_vec_Norm {ρ σ : Type} (q : ρ → Option σ) (g_root_Hypot : Nat → Bool → (Nat → Int) → Bool → Option (Int × Bool))   (x0 : Int) (x1 : Int) (x2 : Int) (x3 : Bool) (k : (Int × Bool) → Option ρ) : (K_vec_Norm g_root_Hypot  x0 x1 x2 x3 k).bind q = K_vec_Norm g_root_Hypot  x0 x1 x2 x3 (fun d => (k d).bind q) := by
  simp only [K_vec_Norm, bnd_cond, bnd_bind, bnd_none, bnd_sum]
theorem qa_vec_Norm : ∀ b, (QA_vec_Norm).em b = ([.r (.c (.ptr 0 (.k 0) 1)), .r (.agg [.c (.f (.i .i64 b.1.2.1.1)), .c (.f (.i .i64 b.1.2.1.2.1)), .c (.f (.i .i64 b.1.2.1.2.2.1))])], [[.c (.f (.b b.2.1.1))]]) := fun b => by kernel_rfl
theorem e_vec_Norm {f : (Int) → (Int) → (Int) → (Bool) → Option (Int × Bool)} {args : List AV} {h : List Blk} {r : Res} (hr : (F_vec_Norm f args h).eval = some r) : ∃ x0 x1 x2 x3, args = [.r (.c (.ptr 0 (.k 0) 1)), .r (.agg [.c (.f (.i .i64 x0)), .c (.f (.i .i64 x1)), .c (.f (.i .i64 x2))])] ∧ h = [[.c (.f (.b x3))]] ∧ (f x0 x1 x2 x3).bind (fun (d : Int × Bool) => some (Res.mk (AV.r (RV.c (CV.f (FV.i IntKind.i64 d.1)))) [Ch.set [Sg.c (CV.f (FV.b d.2))]] [])) = some r := by
  unfold F_vec_Norm at hr
  split at hr
  · rename_i b hb
    have e := ((QA_vec_Norm).ok _ _ hb).trans (qa_vec_Norm b)
    rw [opt_eval2] at hr
    exact ⟨b.1.2.1.1, b.1.2.1.2.1, b.1.2.1.2.2.1, b.2.1.1, (Prod.mk.inj e).1, (Prod.mk.inj e).2, hr⟩
  · cases hr
theorem n_vec_Norm {σ : Type} (q : (Int × Bool) → Option σ) (x0 : Int) (x1 : Int) (x2 : Int) (x3 : Bool) : (f_vec_Norm x0 x1 x2 x3).bind q = K_vec_Norm f_root_Hypot  x0 x1 x2 x3 q := by
  unfold f_vec_Norm
  exact m_vec_Norm q f_root_Hypot   x0 x1 x2 x3 some
theorem s_vec_Norm : Sound Try.prog 42 (F_vec_Norm f_vec_Norm) :=
  (inl_sound (l := [(64, F_root_Hypot f_root_Hypot)]) (.cons s_root_Hypot (.nil _)) mixed [] [] 200 (by kernel_rfl)).by (F := F_vec_Norm f_vec_Norm) fun args b r hr => by
  obtain ⟨x0, x1, x2, x3, rfl, rfl, hr1⟩ := e_vec_Norm hr
  exact inl_eval ((d_vec_Norm f_root_Hypot  x0 x1 x2 x3).trans ((n_vec_Norm (fun (d : Int × Bool) => some (Res.mk (AV.r (RV.c (CV.f (FV.i IntKind.i64 d.1)))) [Ch.set [Sg.c (CV.f (FV.b d.2))]] [])) x0 x1 x2 x3).symm.trans hr1))

end Go.Proofs.Ythbnojedlbeglaa
