/-
  Contracts by plain functions: (wide.big).less, (wide.big).minus, wide.Root, wide.Neg, wide.Shift, wide.Cmp
-/
import Derived.Test.YtcalippagaaikaaW2
import Derived.Test.YtcalippagaaikaaVBits
set_option maxRecDepth 100000
set_option maxHeartbeats 4000000
set_option linter.unusedVariables false
namespace Go.Proofs.Ytcalippagaaikaa
open Go.Ab
def K__wide_big__less {ρ : Type}   (x0 : Int) (x1 : Int) (x2 : Int) (x3 : Int) (k : (Bool) → Option ρ) : Option ρ :=
  bif decide (x0 < x2) then k true else bif x0 == x2 then k (decide (x1 < x3)) else k false
def f__wide_big__less (x0 : Int) (x1 : Int) (x2 : Int) (x3 : Int) : Option (Bool) := K__wide_big__less   x0 x1 x2 x3 some
section
open Go.Ab.Rdr
def QA__wide_big__less := ((pair (cons (ar (ra (cons (gc (cf (fi .u64 hole))) (cons (gc (cf (fi .u64 hole))) nil)))) (cons (ar (ra (cons (gc (cf (fi .u64 hole))) (cons (gc (cf (fi .u64 hole))) nil)))) nil)) nil) : Rdr (List AV × List Blk) _)
end
def F__wide_big__less (f : (Int) → (Int) → (Int) → (Int) → Option (Bool)) : Sem1 := fun args h => match (QA__wide_big__less).rd (args, h) with
  | some b => .opt (f b.1.1.1 b.1.1.2.1 b.1.2.1.1 b.1.2.1.2.1) fun (d : Bool) => .leaf (Res.mk (AV.r (RV.c (CV.f (FV.b d)))) [] [])
  | none => .fail
theorem d__wide_big__less   (x0 : Int) (x1 : Int) (x2 : Int) (x3 : Int) : den Try.prog (envOf []) ⟨[], [], [], [], none⟩ 200 49 [.r (.agg [.c (.f (.i .u64 x0)), .c (.f (.i .u64 x1))]), .r (.agg [.c (.f (.i .u64 x2)), .c (.f (.i .u64 x3))])] [] =
    K__wide_big__less   x0 x1 x2 x3 (fun (d : Bool) => some (Res.mk (AV.r (RV.c (CV.f (FV.b d)))) [] [])) := by kernel_rfl
theorem m__wide_big__less {ρ σ : Type} (q : ρ → Option σ)    (x0 : Int) (x1 : Int) (x2 : Int) (x3 : Int) (k : (Bool) → Option ρ) : (K__wide_big__less   x0 x1 x2 x3 k).bind q = K__wide_big__less   x0 x1 x2 x3 (fun d => (k d).bind q) := by
  simp only [K__wide_big__less, bnd_cond, bnd_bind, bnd_none, bnd_sum]
theorem qa__wide_big__less : ∀ b, (QA__wide_big__less).em b = ([.r (.agg [.c (.f (.i .u64 b.1.1.1)), .c (.f (.i .u64 b.1.1.2.1))]), .r (.agg [.c (.f (.i .u64 b.1.2.1.1)), .c (.f (.i .u64 b.1.2.1.2.1))])], []) := fun b => by kernel_rfl
theorem e__wide_big__less {f : (Int) → (Int) → (Int) → (Int) → Option (Bool)} {args : List AV} {h : List Blk} {r : Res} (hr : (F__wide_big__less f args h).eval = some r) : ∃ x0 x1 x2 x3, args = [.r (.agg [.c (.f (.i .u64 x0)), .c (.f (.i .u64 x1))]), .r (.agg [.c (.f (.i .u64 x2)), .c (.f (.i .u64 x3))])] ∧ h = [] ∧ (f x0 x1 x2 x3).bind (fun (d : Bool) => some (Res.mk (AV.r (RV.c (CV.f (FV.b d)))) [] [])) = some r := by
  unfold F__wide_big__less at hr
  split at hr
  · rename_i b hb
    have e := ((QA__wide_big__less).ok _ _ hb).trans (qa__wide_big__less b)
    rw [opt_eval2] at hr
    exact ⟨b.1.1.1, b.1.1.2.1, b.1.2.1.1, b.1.2.1.2.1, (Prod.mk.inj e).1, (Prod.mk.inj e).2, hr⟩
  · cases hr
theorem n__wide_big__less {σ : Type} (q : (Bool) → Option σ) (x0 : Int) (x1 : Int) (x2 : Int) (x3 : Int) : (f__wide_big__less x0 x1 x2 x3).bind q = K__wide_big__less   x0 x1 x2 x3 q := by
  unfold f__wide_big__less
  exact m__wide_big__less q    x0 x1 x2 x3 some
theorem s__wide_big__less : Sound Try.prog 49 (F__wide_big__less f__wide_big__less) :=
  (inl_sound (l := []) (.nil _) mixed [] [] 200 (by kernel_rfl)).by (F := F__wide_big__less f__wide_big__less) fun args b r hr => by
  obtain ⟨x0, x1, x2, x3, rfl, rfl, hr1⟩ := e__wide_big__less hr
  exact inl_eval ((d__wide_big__less   x0 x1 x2 x3).trans ((n__wide_big__less (fun (d : Bool) => some (Res.mk (AV.r (RV.c (CV.f (FV.b d)))) [] [])) x0 x1 x2 x3).symm.trans hr1))

def K__wide_big__minus {ρ : Type} (g_Sub64 : C3)  (x0 : Int) (x1 : Int) (x2 : Int) (x3 : Int) (k : (Int × Int) → Option ρ) : Option ρ :=
  Option.bind (g_Sub64 x1 x3 0) fun (d : Int × Int) => Option.bind (g_Sub64 x0 x2 d.snd) fun (d_1 : Int × Int) => k (d_1.fst, d.fst)
def f__wide_big__minus (x0 : Int) (x1 : Int) (x2 : Int) (x3 : Int) : Option (Int × Int) := K__wide_big__minus f_Sub64  x0 x1 x2 x3 some
section
open Go.Ab.Rdr
def QA__wide_big__minus := ((pair (cons (ar (ra (cons (gc (cf (fi .u64 hole))) (cons (gc (cf (fi .u64 hole))) nil)))) (cons (ar (ra (cons (gc (cf (fi .u64 hole))) (cons (gc (cf (fi .u64 hole))) nil)))) nil)) nil) : Rdr (List AV × List Blk) _)
end
def F__wide_big__minus (f : (Int) → (Int) → (Int) → (Int) → Option (Int × Int)) : Sem1 := fun args h => match (QA__wide_big__minus).rd (args, h) with
  | some b => .opt (f b.1.1.1 b.1.1.2.1 b.1.2.1.1 b.1.2.1.2.1) fun (d : Int × Int) => .leaf (Res.mk (AV.r (RV.agg [Sg.c (CV.f (FV.i IntKind.u64 d.fst)), Sg.c (CV.f (FV.i IntKind.u64 d.snd))])) [] [])
  | none => .fail
theorem d__wide_big__minus (g_Sub64 : C3)  (x0 : Int) (x1 : Int) (x2 : Int) (x3 : Int) : den Try.prog (envOf [(88, F_carry g_Sub64)]) ⟨[], [], [], [], none⟩ 200 50 [.r (.agg [.c (.f (.i .u64 x0)), .c (.f (.i .u64 x1))]), .r (.agg [.c (.f (.i .u64 x2)), .c (.f (.i .u64 x3))])] [] =
    K__wide_big__minus g_Sub64  x0 x1 x2 x3 (fun (d : Int × Int) => some (Res.mk (AV.r (RV.agg [Sg.c (CV.f (FV.i IntKind.u64 d.fst)), Sg.c (CV.f (FV.i IntKind.u64 d.snd))])) [] [])) := by kernel_rfl
theorem m__wide_big__minus {ρ σ : Type} (q : ρ → Option σ) (g_Sub64 : C3)   (x0 : Int) (x1 : Int) (x2 : Int) (x3 : Int) (k : (Int × Int) → Option ρ) : (K__wide_big__minus g_Sub64  x0 x1 x2 x3 k).bind q = K__wide_big__minus g_Sub64  x0 x1 x2 x3 (fun d => (k d).bind q) := by
  simp only [K__wide_big__minus, bnd_cond, bnd_bind, bnd_none, bnd_sum]
theorem qa__wide_big__minus : ∀ b, (QA__wide_big__minus).em b = ([.r (.agg [.c (.f (.i .u64 b.1.1.1)), .c (.f (.i .u64 b.1.1.2.1))]), .r (.agg [.c (.f (.i .u64 b.1.2.1.1)), .c (.f (.i .u64 b.1.2.1.2.1))])], []) := fun b => by kernel_rfl
theorem e__wide_big__minus {f : (Int) → (Int) → (Int) → (Int) → Option (Int × Int)} {args : List AV} {h : List Blk} {r : Res} (hr : (F__wide_big__minus f args h).eval = some r) : ∃ x0 x1 x2 x3, args = [.r (.agg [.c (.f (.i .u64 x0)), .c (.f (.i .u64 x1))]), .r (.agg [.c (.f (.i .u64 x2)), .c (.f (.i .u64 x3))])] ∧ h = [] ∧ (f x0 x1 x2 x3).bind (fun (d : Int × Int) => some (Res.mk (AV.r (RV.agg [Sg.c (CV.f (FV.i IntKind.u64 d.fst)), Sg.c (CV.f (FV.i IntKind.u64 d.snd))])) [] [])) = some r := by
  unfold F__wide_big__minus at hr
  split at hr
  · rename_i b hb
    have e := ((QA__wide_big__minus).ok _ _ hb).trans (qa__wide_big__minus b)
    rw [opt_eval2] at hr
    exact ⟨b.1.1.1, b.1.1.2.1, b.1.2.1.1, b.1.2.1.2.1, (Prod.mk.inj e).1, (Prod.mk.inj e).2, hr⟩
  · cases hr
theorem n__wide_big__minus {σ : Type} (q : (Int × Int) → Option σ) (x0 : Int) (x1 : Int) (x2 : Int) (x3 : Int) : (f__wide_big__minus x0 x1 x2 x3).bind q = K__wide_big__minus f_Sub64  x0 x1 x2 x3 q := by
  unfold f__wide_big__minus
  exact m__wide_big__minus q f_Sub64   x0 x1 x2 x3 some
theorem s__wide_big__minus : Sound Try.prog 50 (F__wide_big__minus f__wide_big__minus) :=
  (inl_sound (l := [(88, F_carry f_Sub64)]) (.cons s_Sub64 (.nil _)) mixed [] [] 200 (by kernel_rfl)).by (F := F__wide_big__minus f__wide_big__minus) fun args b r hr => by
  obtain ⟨x0, x1, x2, x3, rfl, rfl, hr1⟩ := e__wide_big__minus hr
  exact inl_eval ((d__wide_big__minus f_Sub64  x0 x1 x2 x3).trans ((n__wide_big__minus (fun (d : Int × Int) => some (Res.mk (AV.r (RV.agg [Sg.c (CV.f (FV.i IntKind.u64 d.fst)), Sg.c (CV.f (FV.i IntKind.u64 d.snd))])) [] [])) x0 x1 x2 x3).symm.trans hr1))

def S_wide_Root_0 {ρ : Type} (g__wide_big__shl : Int → Int → Int → Option (Int × Int)) (g__wide_big__plus : Int → Int → Int → Int → Option (Int × Int)) (g__wide_big__shr : Int → Int → Int → Option (Int × Int)) (g__wide_big__less : Int → Int → Int → Int → Option Bool) (g__wide_big__minus : Int → Int → Int → Int → Option (Int × Int)) (g_wide_signed64 : Int → Int → Bool → Option (Int × Bool))  (x0 : Int) (x1 : Int) (x2 : Int) (x3 : Int) (x4 : Int) (c : (Int × Int × Int × Int × Int) → Option ρ) (x : (Int × Bool × Int × Int × Int × Int) → Option ρ) : Option ρ :=
  bif decide (x0 ≥ 0) then
    Option.bind (g__wide_big__shl 0 1 x0) fun (d : Int × Int) =>
      Option.bind (g__wide_big__plus x3 x4 d.fst d.snd) fun (d_1 : Int × Int) =>
        Option.bind (g__wide_big__shr x3 x4 1) fun (d_2 : Int × Int) =>
          Option.bind (g__wide_big__less x1 x2 d_1.fst d_1.snd) fun (d_3 : Bool) =>
            bif !d_3 then
              Option.bind (g__wide_big__minus x1 x2 d_1.fst d_1.snd) fun (d_4 : Int × Int) =>
                Option.bind (g__wide_big__plus d_2.fst d_2.snd d.fst d.snd) fun (d : Int × Int) => c (IntKind.wrap IntKind.i64 (x0 - 2), d_4.fst, d_4.snd, d.fst, d.snd)
            else c (IntKind.wrap IntKind.i64 (x0 - 2), x1, x2, d_2.fst, d_2.snd)
  else x (x0, decide (x0 ≥ 0), x1, x2, x3, x4)
section
open Go.Ab.Rdr
def Q_wide_Root_0 := (st (cons aund (cons aund (cons aund (cons aund (cons (ar (rc (cptr (nat 0) (ok' (nat 0)) (nat 2)))) (cons (ar (rc (cptr (nat 1) (ok' (nat 0)) (nat 2)))) (cons (ar (rc (cf (fi .i64 hole)))) (cons aund (cons aund (cons aund (cons aund (cons aund (cons aund (cons aund (cons aund (cons aund (cons aund (cons aund (cons aund (cons aund (cons aund (cons aund (cons aund (cons aund (cons aund (cons aund (cons aund (cons aund (cons aund (cons aund (cons aund (cons aund (cons aund (cons aund (cons aund (cons aund (cons aund (cons aund (cons aund (cons aund (cons aund (cons aund (cons aund (cons aund (cons aund (cons aund (cons aund (cons aund (cons aund (cons aund (cons aund nil))))))))))))))))))))))))))))))))))))))))))))))))))) (cons (some' (cons (gc (cf (fi .u64 hole))) (cons (gc (cf (fi .u64 hole))) nil))) (cons (some' (cons (gc (cf (fi .u64 hole))) (cons (gc (cf (fi .u64 hole))) nil))) nil)) nil)
end
theorem q_wide_Root_0 : ∀ b, (Q_wide_Root_0).em b = St.mk
    [AV.und, AV.und, AV.und, AV.und, AV.r (RV.c (CV.ptr 0 (Off.k 0) 2)), AV.r (RV.c (CV.ptr 1 (Off.k 0) 2)), AV.r (RV.c (CV.f (FV.i IntKind.i64 b.1.2.2.2.2.2.2.1))), AV.und, AV.und, AV.und, AV.und, AV.und, AV.und,
      AV.und, AV.und, AV.und, AV.und, AV.und, AV.und, AV.und, AV.und, AV.und, AV.und, AV.und, AV.und, AV.und, AV.und, AV.und, AV.und, AV.und, AV.und, AV.und, AV.und, AV.und, AV.und, AV.und, AV.und,
      AV.und, AV.und, AV.und, AV.und, AV.und, AV.und, AV.und, AV.und, AV.und, AV.und, AV.und, AV.und, AV.und, AV.und]
    [some [Sg.c (CV.f (FV.i IntKind.u64 b.2.1.1.1)), Sg.c (CV.f (FV.i IntKind.u64 b.2.1.1.2.1))], some [Sg.c (CV.f (FV.i IntKind.u64 b.2.1.2.1.1)), Sg.c (CV.f (FV.i IntKind.u64 b.2.1.2.1.2.1))]] [] := fun b => by kernel_rfl
def R_wide_Root_0 (l : ∀ {ρ : Type}, (Int × Int × Int × Int × Int) → ((Int × Bool × Int × Int × Int × Int) → Option ρ) → Option ρ) {ρ : Type} (s : St) (K : AX → St → Option ρ) : Option ρ := ((Q_wide_Root_0).rd s).bind fun b => l (b.1.2.2.2.2.2.2.1, b.2.1.1.1, b.2.1.1.2.1, b.2.1.2.1.1, b.2.1.2.1.2.1) (fun d => K (AX.ex 0) (St.mk
  [AV.und, AV.und, AV.und, AV.und, AV.r (RV.c (CV.ptr 0 (Off.k 0) 2)), AV.r (RV.c (CV.ptr 1 (Off.k 0) 2)), AV.r (RV.c (CV.f (FV.i IntKind.i64 d.fst))), AV.und, AV.und, AV.und, AV.und, AV.und, AV.und,
    AV.und, AV.und, AV.und, AV.und, AV.und, AV.und, AV.r (RV.c (CV.f (FV.i IntKind.i64 d.fst))), AV.r (RV.c (CV.f (FV.b d.snd.fst))), AV.und, AV.und, AV.und, AV.und, AV.und, AV.und, AV.und, AV.und,
    AV.und, AV.und, AV.und, AV.und, AV.und, AV.und, AV.und, AV.und, AV.und, AV.und, AV.und, AV.und, AV.und, AV.und, AV.und, AV.und, AV.und, AV.und, AV.und, AV.und, AV.und, AV.und]
  [some [Sg.c (CV.f (FV.i IntKind.u64 d.snd.snd.fst)), Sg.c (CV.f (FV.i IntKind.u64 d.snd.snd.snd.fst))],
    some [Sg.c (CV.f (FV.i IntKind.u64 d.snd.snd.snd.snd.fst)), Sg.c (CV.f (FV.i IntKind.u64 d.snd.snd.snd.snd.snd))]]
  []))
theorem ms_wide_Root_0 {ρ σ : Type} (g__wide_big__shl : Int → Int → Int → Option (Int × Int)) (g__wide_big__plus : Int → Int → Int → Int → Option (Int × Int)) (g__wide_big__shr : Int → Int → Int → Option (Int × Int)) (g__wide_big__less : Int → Int → Int → Int → Option Bool) (g__wide_big__minus : Int → Int → Int → Int → Option (Int × Int)) (g_wide_signed64 : Int → Int → Bool → Option (Int × Bool))   (q : ρ → Option σ) (x0 : Int) (x1 : Int) (x2 : Int) (x3 : Int) (x4 : Int) (c : (Int × Int × Int × Int × Int) → Option ρ) (x : (Int × Bool × Int × Int × Int × Int) → Option ρ) : (S_wide_Root_0 g__wide_big__shl g__wide_big__plus g__wide_big__shr g__wide_big__less g__wide_big__minus g_wide_signed64  x0 x1 x2 x3 x4 c x).bind q = S_wide_Root_0 g__wide_big__shl g__wide_big__plus g__wide_big__shr g__wide_big__less g__wide_big__minus g_wide_signed64  x0 x1 x2 x3 x4 (fun d => (c d).bind q) (fun d => (x d).bind q) := by
  simp only [S_wide_Root_0, bnd_cond, bnd_bind, bnd_none, bnd_sum]
def L_wide_Root_0 {ρ : Type} (d : Int × Int × Int × Int × Int) (k : (Int × Bool × Int × Int × Int × Int) → Option ρ) : Option ρ := loopK (fun d c x => S_wide_Root_0 f__wide_big__shl f__wide_big__plus f__wide_big__shr f__wide_big__less f__wide_big__minus f_wide_signed64  d.1 d.2.1 d.2.2.1 d.2.2.2.1 d.2.2.2.2 c x) 200 d k
theorem mL_wide_Root_0 {ρ σ : Type} (q : ρ → Option σ) (d : Int × Int × Int × Int × Int) (k : (Int × Bool × Int × Int × Int × Int) → Option ρ) : (L_wide_Root_0 d k).bind q = L_wide_Root_0 d fun x => (k x).bind q :=
  loopK_bind q (fun d c x => ms_wide_Root_0 f__wide_big__shl f__wide_big__plus f__wide_big__shr f__wide_big__less f__wide_big__minus f_wide_signed64   q d.1 d.2.1 d.2.2.1 d.2.2.2.1 d.2.2.2.2 c x) k _ d
theorem ds_wide_Root_0 {ρ : Type} (g__wide_big__shl : Int → Int → Int → Option (Int × Int)) (g__wide_big__plus : Int → Int → Int → Int → Option (Int × Int)) (g__wide_big__shr : Int → Int → Int → Option (Int × Int)) (g__wide_big__less : Int → Int → Int → Int → Option Bool) (g__wide_big__minus : Int → Int → Int → Int → Option (Int × Int)) (g_wide_signed64 : Int → Int → Bool → Option (Int × Bool)) (l_0 : ∀ {ρ : Type}, (Int × Int × Int × Int × Int) → ((Int × Bool × Int × Int × Int × Int) → Option ρ) → Option ρ) (x0 : Int) (x1 : Int) (x2 : Int) (x3 : Int) (x4 : Int) (c : St → Option ρ) (K : AX → St → Option ρ) :
    runC Try.prog (envOf [(46, F__wide_big__shl g__wide_big__shl), (47, F__wide_big__plus g__wide_big__plus), (48, F__wide_big__shr g__wide_big__shr), (49, F__wide_big__less g__wide_big__less), (50, F__wide_big__minus g__wide_big__minus), (51, F_wide_signed64 g_wide_signed64)]) ⟨[⟨5, [0, 1, 2, 3, 7, 8, 9, 10, 11, 12, 13, 14, 15, 16, 17, 18, 19, 20, 21, 22, 23, 24, 25, 26, 27, 28, 29, 30, 31, 32, 33, 34, 35, 36, 37, 38, 39, 40, 41, 42, 43, 44, 45, 46, 47, 48, 49, 50], []⟩], [⟨5, 0, @R_wide_Root_0 (@l_0)⟩], [], [], none⟩ (tmpsOf Try.prog 15) 0 200 (loopIn Try.prog 15 5)
      (St.mk
    [AV.und, AV.und, AV.und, AV.und, AV.r (RV.c (CV.ptr 0 (Off.k 0) 2)), AV.r (RV.c (CV.ptr 1 (Off.k 0) 2)), AV.r (RV.c (CV.f (FV.i IntKind.i64 x0))), AV.und, AV.und, AV.und, AV.und, AV.und, AV.und,
      AV.und, AV.und, AV.und, AV.und, AV.und, AV.und, AV.und, AV.und, AV.und, AV.und, AV.und, AV.und, AV.und, AV.und, AV.und, AV.und, AV.und, AV.und, AV.und, AV.und, AV.und, AV.und, AV.und, AV.und,
      AV.und, AV.und, AV.und, AV.und, AV.und, AV.und, AV.und, AV.und, AV.und, AV.und, AV.und, AV.und, AV.und, AV.und]
    [some [Sg.c (CV.f (FV.i IntKind.u64 x1)), Sg.c (CV.f (FV.i IntKind.u64 x2))], some [Sg.c (CV.f (FV.i IntKind.u64 x3)), Sg.c (CV.f (FV.i IntKind.u64 x4))]] [])
      (next (fun t => t.head 0 ⟨[⟨5, [0, 1, 2, 3, 7, 8, 9, 10, 11, 12, 13, 14, 15, 16, 17, 18, 19, 20, 21, 22, 23, 24, 25, 26, 27, 28, 29, 30, 31, 32, 33, 34, 35, 36, 37, 38, 39, 40, 41, 42, 43, 44, 45, 46, 47, 48, 49, 50], []⟩], [⟨5, 0, @R_wide_Root_0 (@l_0)⟩], [], [], none⟩ (loopIn Try.prog 15 5)) c K) =
    S_wide_Root_0 g__wide_big__shl g__wide_big__plus g__wide_big__shr g__wide_big__less g__wide_big__minus g_wide_signed64  x0 x1 x2 x3 x4 (fun d => c (St.mk
  [AV.und, AV.und, AV.und, AV.und, AV.r (RV.c (CV.ptr 0 (Off.k 0) 2)), AV.r (RV.c (CV.ptr 1 (Off.k 0) 2)), AV.r (RV.c (CV.f (FV.i IntKind.i64 d.fst))), AV.und, AV.und, AV.und, AV.und, AV.und, AV.und,
    AV.und, AV.und, AV.und, AV.und, AV.und, AV.und, AV.und, AV.und, AV.und, AV.und, AV.und, AV.und, AV.und, AV.und, AV.und, AV.und, AV.und, AV.und, AV.und, AV.und, AV.und, AV.und, AV.und, AV.und,
    AV.und, AV.und, AV.und, AV.und, AV.und, AV.und, AV.und, AV.und, AV.und, AV.und, AV.und, AV.und, AV.und, AV.und]
  [some [Sg.c (CV.f (FV.i IntKind.u64 d.snd.fst)), Sg.c (CV.f (FV.i IntKind.u64 d.snd.snd.fst))],
    some [Sg.c (CV.f (FV.i IntKind.u64 d.snd.snd.snd.fst)), Sg.c (CV.f (FV.i IntKind.u64 d.snd.snd.snd.snd))]]
  [])) (fun d => K (AX.ex 0) (St.mk
  [AV.und, AV.und, AV.und, AV.und, AV.r (RV.c (CV.ptr 0 (Off.k 0) 2)), AV.r (RV.c (CV.ptr 1 (Off.k 0) 2)), AV.r (RV.c (CV.f (FV.i IntKind.i64 d.fst))), AV.und, AV.und, AV.und, AV.und, AV.und, AV.und,
    AV.und, AV.und, AV.und, AV.und, AV.und, AV.und, AV.r (RV.c (CV.f (FV.i IntKind.i64 d.fst))), AV.r (RV.c (CV.f (FV.b d.snd.fst))), AV.und, AV.und, AV.und, AV.und, AV.und, AV.und, AV.und, AV.und,
    AV.und, AV.und, AV.und, AV.und, AV.und, AV.und, AV.und, AV.und, AV.und, AV.und, AV.und, AV.und, AV.und, AV.und, AV.und, AV.und, AV.und, AV.und, AV.und, AV.und, AV.und, AV.und]
  [some [Sg.c (CV.f (FV.i IntKind.u64 d.snd.snd.fst)), Sg.c (CV.f (FV.i IntKind.u64 d.snd.snd.snd.fst))],
    some [Sg.c (CV.f (FV.i IntKind.u64 d.snd.snd.snd.snd.fst)), Sg.c (CV.f (FV.i IntKind.u64 d.snd.snd.snd.snd.snd))]]
  [])) := by kernel_rfl
theorem it_wide_Root_0 {ρ : Type} (x0 : Int) (x1 : Int) (x2 : Int) (x3 : Int) (x4 : Int) (K : AX → St → Option ρ) :
    iter (fun t => t.head 0 ⟨[⟨5, [0, 1, 2, 3, 7, 8, 9, 10, 11, 12, 13, 14, 15, 16, 17, 18, 19, 20, 21, 22, 23, 24, 25, 26, 27, 28, 29, 30, 31, 32, 33, 34, 35, 36, 37, 38, 39, 40, 41, 42, 43, 44, 45, 46, 47, 48, 49, 50], []⟩], [⟨5, 0, @R_wide_Root_0 (@L_wide_Root_0)⟩], [], [], none⟩ (loopIn Try.prog 15 5)) (runC Try.prog (envOf [(46, F__wide_big__shl f__wide_big__shl), (47, F__wide_big__plus f__wide_big__plus), (48, F__wide_big__shr f__wide_big__shr), (49, F__wide_big__less f__wide_big__less), (50, F__wide_big__minus f__wide_big__minus), (51, F_wide_signed64 f_wide_signed64)]) ⟨[⟨5, [0, 1, 2, 3, 7, 8, 9, 10, 11, 12, 13, 14, 15, 16, 17, 18, 19, 20, 21, 22, 23, 24, 25, 26, 27, 28, 29, 30, 31, 32, 33, 34, 35, 36, 37, 38, 39, 40, 41, 42, 43, 44, 45, 46, 47, 48, 49, 50], []⟩], [⟨5, 0, @R_wide_Root_0 (@L_wide_Root_0)⟩], [], [], none⟩ (tmpsOf Try.prog 15) 0 200 (loopIn Try.prog 15 5)) K 200
      (St.mk
    [AV.und, AV.und, AV.und, AV.und, AV.r (RV.c (CV.ptr 0 (Off.k 0) 2)), AV.r (RV.c (CV.ptr 1 (Off.k 0) 2)), AV.r (RV.c (CV.f (FV.i IntKind.i64 x0))), AV.und, AV.und, AV.und, AV.und, AV.und, AV.und,
      AV.und, AV.und, AV.und, AV.und, AV.und, AV.und, AV.und, AV.und, AV.und, AV.und, AV.und, AV.und, AV.und, AV.und, AV.und, AV.und, AV.und, AV.und, AV.und, AV.und, AV.und, AV.und, AV.und, AV.und,
      AV.und, AV.und, AV.und, AV.und, AV.und, AV.und, AV.und, AV.und, AV.und, AV.und, AV.und, AV.und, AV.und, AV.und]
    [some [Sg.c (CV.f (FV.i IntKind.u64 x1)), Sg.c (CV.f (FV.i IntKind.u64 x2))], some [Sg.c (CV.f (FV.i IntKind.u64 x3)), Sg.c (CV.f (FV.i IntKind.u64 x4))]] []) = L_wide_Root_0 (x0, x1, x2, x3, x4) (fun d => K (AX.ex 0) (St.mk
  [AV.und, AV.und, AV.und, AV.und, AV.r (RV.c (CV.ptr 0 (Off.k 0) 2)), AV.r (RV.c (CV.ptr 1 (Off.k 0) 2)), AV.r (RV.c (CV.f (FV.i IntKind.i64 d.fst))), AV.und, AV.und, AV.und, AV.und, AV.und, AV.und,
    AV.und, AV.und, AV.und, AV.und, AV.und, AV.und, AV.r (RV.c (CV.f (FV.i IntKind.i64 d.fst))), AV.r (RV.c (CV.f (FV.b d.snd.fst))), AV.und, AV.und, AV.und, AV.und, AV.und, AV.und, AV.und, AV.und,
    AV.und, AV.und, AV.und, AV.und, AV.und, AV.und, AV.und, AV.und, AV.und, AV.und, AV.und, AV.und, AV.und, AV.und, AV.und, AV.und, AV.und, AV.und, AV.und, AV.und, AV.und, AV.und]
  [some [Sg.c (CV.f (FV.i IntKind.u64 d.snd.snd.fst)), Sg.c (CV.f (FV.i IntKind.u64 d.snd.snd.snd.fst))],
    some [Sg.c (CV.f (FV.i IntKind.u64 d.snd.snd.snd.snd.fst)), Sg.c (CV.f (FV.i IntKind.u64 d.snd.snd.snd.snd.snd))]]
  [])) :=
  iter_loopX (emb := fun (d : Int × Int × Int × Int × Int) => St.mk
  [AV.und, AV.und, AV.und, AV.und, AV.r (RV.c (CV.ptr 0 (Off.k 0) 2)), AV.r (RV.c (CV.ptr 1 (Off.k 0) 2)), AV.r (RV.c (CV.f (FV.i IntKind.i64 d.fst))), AV.und, AV.und, AV.und, AV.und, AV.und, AV.und,
    AV.und, AV.und, AV.und, AV.und, AV.und, AV.und, AV.und, AV.und, AV.und, AV.und, AV.und, AV.und, AV.und, AV.und, AV.und, AV.und, AV.und, AV.und, AV.und, AV.und, AV.und, AV.und, AV.und, AV.und,
    AV.und, AV.und, AV.und, AV.und, AV.und, AV.und, AV.und, AV.und, AV.und, AV.und, AV.und, AV.und, AV.und, AV.und]
  [some [Sg.c (CV.f (FV.i IntKind.u64 d.snd.fst)), Sg.c (CV.f (FV.i IntKind.u64 d.snd.snd.fst))],
    some [Sg.c (CV.f (FV.i IntKind.u64 d.snd.snd.snd.fst)), Sg.c (CV.f (FV.i IntKind.u64 d.snd.snd.snd.snd))]]
  []) (step := fun d c x => S_wide_Root_0 f__wide_big__shl f__wide_big__plus f__wide_big__shr f__wide_big__less f__wide_big__minus f_wide_signed64  d.1 d.2.1 d.2.2.1 d.2.2.2.1 d.2.2.2.2 c x) (kx := (fun d => K (AX.ex 0) (St.mk
  [AV.und, AV.und, AV.und, AV.und, AV.r (RV.c (CV.ptr 0 (Off.k 0) 2)), AV.r (RV.c (CV.ptr 1 (Off.k 0) 2)), AV.r (RV.c (CV.f (FV.i IntKind.i64 d.fst))), AV.und, AV.und, AV.und, AV.und, AV.und, AV.und,
    AV.und, AV.und, AV.und, AV.und, AV.und, AV.und, AV.r (RV.c (CV.f (FV.i IntKind.i64 d.fst))), AV.r (RV.c (CV.f (FV.b d.snd.fst))), AV.und, AV.und, AV.und, AV.und, AV.und, AV.und, AV.und, AV.und,
    AV.und, AV.und, AV.und, AV.und, AV.und, AV.und, AV.und, AV.und, AV.und, AV.und, AV.und, AV.und, AV.und, AV.und, AV.und, AV.und, AV.und, AV.und, AV.und, AV.und, AV.und, AV.und]
  [some [Sg.c (CV.f (FV.i IntKind.u64 d.snd.snd.fst)), Sg.c (CV.f (FV.i IntKind.u64 d.snd.snd.snd.fst))],
    some [Sg.c (CV.f (FV.i IntKind.u64 d.snd.snd.snd.snd.fst)), Sg.c (CV.f (FV.i IntKind.u64 d.snd.snd.snd.snd.snd))]]
  [])))
    (fun d c => ds_wide_Root_0 f__wide_big__shl f__wide_big__plus f__wide_big__shr f__wide_big__less f__wide_big__minus f_wide_signed64 (@L_wide_Root_0) d.1 d.2.1 d.2.2.1 d.2.2.2.1 d.2.2.2.2 c K) 200 (x0, x1, x2, x3, x4)
theorem so_wide_Root_0 : ∀ kk, SumOK Try.prog (envOf [(46, F__wide_big__shl f__wide_big__shl), (47, F__wide_big__plus f__wide_big__plus), (48, F__wide_big__shr f__wide_big__shr), (49, F__wide_big__less f__wide_big__less), (50, F__wide_big__minus f__wide_big__minus), (51, F_wide_signed64 f_wide_signed64)]) ⟨[⟨5, [0, 1, 2, 3, 7, 8, 9, 10, 11, 12, 13, 14, 15, 16, 17, 18, 19, 20, 21, 22, 23, 24, 25, 26, 27, 28, 29, 30, 31, 32, 33, 34, 35, 36, 37, 38, 39, 40, 41, 42, 43, 44, 45, 46, 47, 48, 49, 50], []⟩], [⟨5, 0, @R_wide_Root_0 (@L_wide_Root_0)⟩], [], [], none⟩ (tmpsOf Try.prog 15) kk 200 (loopIn Try.prog 15 5) :=
  SumOK.of (id := 5) (k0 := 0) (run := @R_wide_Root_0 (@L_wide_Root_0)) (by kernel_rfl) fun s K r hr => by
    unfold R_wide_Root_0 at hr
    obtain ⟨b, hb, hr1⟩ := Option.bind_eq_some_iff.1 hr
    have e := ((Q_wide_Root_0).ok s b hb).trans (q_wide_Root_0 b)
    subst e
    exact ⟨200, (it_wide_Root_0 b.1.2.2.2.2.2.2.1 b.2.1.1.1 b.2.1.1.2.1 b.2.1.2.1.1 b.2.1.2.1.2.1 K).trans hr1⟩
def K_wide_Root {ρ : Type} (g__wide_big__shl : Int → Int → Int → Option (Int × Int)) (g__wide_big__plus : Int → Int → Int → Int → Option (Int × Int)) (g__wide_big__shr : Int → Int → Int → Option (Int × Int)) (g__wide_big__less : Int → Int → Int → Int → Option Bool) (g__wide_big__minus : Int → Int → Int → Int → Option (Int × Int)) (g_wide_signed64 : Int → Int → Bool → Option (Int × Bool)) (l_0 : ∀ {ρ : Type}, (Int × Int × Int × Int × Int) → ((Int × Bool × Int × Int × Int × Int) → Option ρ) → Option ρ) (x0 : Int) (x1 : Int) (k : (Int × Bool) → Option ρ) : Option ρ :=
  bif decide (x0 < 0) then k (0, false)
  else
    l_0 (126, IntKind.wrap IntKind.u64 x0, x1, 0, 0) fun (d : Int × Bool × Int × Int × Int × Int) =>
      Option.bind (g__wide_big__less d.snd.snd.snd.snd.fst d.snd.snd.snd.snd.snd d.snd.snd.fst d.snd.snd.snd.fst) fun (d_1 : Bool) =>
        bif d_1 then
          Option.bind (g__wide_big__plus d.snd.snd.snd.snd.fst d.snd.snd.snd.snd.snd 0 1) fun (d : Int × Int) => Option.bind (g_wide_signed64 d.fst d.snd false) fun (d : Int × Bool) => k (d.fst, d.snd)
        else Option.bind (g_wide_signed64 d.snd.snd.snd.snd.fst d.snd.snd.snd.snd.snd false) fun (d : Int × Bool) => k (d.fst, d.snd)
def f_wide_Root (x0 : Int) (x1 : Int) : Option (Int × Bool) := K_wide_Root f__wide_big__shl f__wide_big__plus f__wide_big__shr f__wide_big__less f__wide_big__minus f_wide_signed64 (@L_wide_Root_0) x0 x1 some
section
open Go.Ab.Rdr
def QA_wide_Root := ((pair (cons (ar (ra (cons (gc (cf (fi .i64 hole))) (cons (gc (cf (fi .u64 hole))) nil)))) nil) nil) : Rdr (List AV × List Blk) _)
end
def F_wide_Root (f : (Int) → (Int) → Option (Int × Bool)) : Sem1 := fun args h => match (QA_wide_Root).rd (args, h) with
  | some b => .opt (f b.1.1.1 b.1.1.2.1) fun (d : Int × Bool) => .leaf (Res.mk (AV.tup [RV.c (CV.f (FV.i IntKind.i64 d.fst)), RV.c (CV.f (FV.b d.snd))]) [] [])
  | none => .fail
theorem d_wide_Root (g__wide_big__shl : Int → Int → Int → Option (Int × Int)) (g__wide_big__plus : Int → Int → Int → Int → Option (Int × Int)) (g__wide_big__shr : Int → Int → Int → Option (Int × Int)) (g__wide_big__less : Int → Int → Int → Int → Option Bool) (g__wide_big__minus : Int → Int → Int → Int → Option (Int × Int)) (g_wide_signed64 : Int → Int → Bool → Option (Int × Bool)) (l_0 : ∀ {ρ : Type}, (Int × Int × Int × Int × Int) → ((Int × Bool × Int × Int × Int × Int) → Option ρ) → Option ρ) (x0 : Int) (x1 : Int) : den Try.prog (envOf [(46, F__wide_big__shl g__wide_big__shl), (47, F__wide_big__plus g__wide_big__plus), (48, F__wide_big__shr g__wide_big__shr), (49, F__wide_big__less g__wide_big__less), (50, F__wide_big__minus g__wide_big__minus), (51, F_wide_signed64 g_wide_signed64)]) ⟨[⟨5, [0, 1, 2, 3, 7, 8, 9, 10, 11, 12, 13, 14, 15, 16, 17, 18, 19, 20, 21, 22, 23, 24, 25, 26, 27, 28, 29, 30, 31, 32, 33, 34, 35, 36, 37, 38, 39, 40, 41, 42, 43, 44, 45, 46, 47, 48, 49, 50], []⟩], [⟨5, 0, @R_wide_Root_0 (@l_0)⟩], [], [], none⟩ 200 15 [.r (.agg [.c (.f (.i .i64 x0)), .c (.f (.i .u64 x1))])] [] =
    K_wide_Root g__wide_big__shl g__wide_big__plus g__wide_big__shr g__wide_big__less g__wide_big__minus g_wide_signed64 (@l_0) x0 x1 (fun (d : Int × Bool) => some (Res.mk (AV.tup [RV.c (CV.f (FV.i IntKind.i64 d.fst)), RV.c (CV.f (FV.b d.snd))]) [] [])) := by kernel_rfl
theorem m_wide_Root {ρ σ : Type} (q : ρ → Option σ) (g__wide_big__shl : Int → Int → Int → Option (Int × Int)) (g__wide_big__plus : Int → Int → Int → Int → Option (Int × Int)) (g__wide_big__shr : Int → Int → Int → Option (Int × Int)) (g__wide_big__less : Int → Int → Int → Int → Option Bool) (g__wide_big__minus : Int → Int → Int → Int → Option (Int × Int)) (g_wide_signed64 : Int → Int → Bool → Option (Int × Bool)) (l_0 : ∀ {ρ : Type}, (Int × Int × Int × Int × Int) → ((Int × Bool × Int × Int × Int × Int) → Option ρ) → Option ρ) (hl_0 : ∀ {ρ σ : Type} (q : ρ → Option σ) (d : Int × Int × Int × Int × Int) (k : (Int × Bool × Int × Int × Int × Int) → Option ρ), (l_0 d k).bind q = l_0 d fun x => (k x).bind q) (x0 : Int) (x1 : Int) (k : (Int × Bool) → Option ρ) : (K_wide_Root g__wide_big__shl g__wide_big__plus g__wide_big__shr g__wide_big__less g__wide_big__minus g_wide_signed64 (@l_0) x0 x1 k).bind q = K_wide_Root g__wide_big__shl g__wide_big__plus g__wide_big__shr g__wide_big__less g__wide_big__minus g_wide_signed64 (@l_0) x0 x1 (fun d => (k d).bind q) := by
  simp only [K_wide_Root, bnd_cond, bnd_bind, bnd_none, bnd_sum, hl_0]
theorem qa_wide_Root : ∀ b, (QA_wide_Root).em b = ([.r (.agg [.c (.f (.i .i64 b.1.1.1)), .c (.f (.i .u64 b.1.1.2.1))])], []) := fun b => by kernel_rfl
theorem e_wide_Root {f : (Int) → (Int) → Option (Int × Bool)} {args : List AV} {h : List Blk} {r : Res} (hr : (F_wide_Root f args h).eval = some r) : ∃ x0 x1, args = [.r (.agg [.c (.f (.i .i64 x0)), .c (.f (.i .u64 x1))])] ∧ h = [] ∧ (f x0 x1).bind (fun (d : Int × Bool) => some (Res.mk (AV.tup [RV.c (CV.f (FV.i IntKind.i64 d.fst)), RV.c (CV.f (FV.b d.snd))]) [] [])) = some r := by
  unfold F_wide_Root at hr
  split at hr
  · rename_i b hb
    have e := ((QA_wide_Root).ok _ _ hb).trans (qa_wide_Root b)
    rw [opt_eval2] at hr
    exact ⟨b.1.1.1, b.1.1.2.1, (Prod.mk.inj e).1, (Prod.mk.inj e).2, hr⟩
  · cases hr
theorem n_wide_Root {σ : Type} (q : (Int × Bool) → Option σ) (x0 : Int) (x1 : Int) : (f_wide_Root x0 x1).bind q = K_wide_Root f__wide_big__shl f__wide_big__plus f__wide_big__shr f__wide_big__less f__wide_big__minus f_wide_signed64 (@L_wide_Root_0) x0 x1 q := by
  unfold f_wide_Root
  exact m_wide_Root q f__wide_big__shl f__wide_big__plus f__wide_big__shr f__wide_big__less f__wide_big__minus f_wide_signed64 (@L_wide_Root_0) (fun q d k => mL_wide_Root_0 q d k) x0 x1 some
theorem s_wide_Root : Sound Try.prog 15 (F_wide_Root f_wide_Root) :=
  (inl_sums (l := [(46, F__wide_big__shl f__wide_big__shl), (47, F__wide_big__plus f__wide_big__plus), (48, F__wide_big__shr f__wide_big__shr), (49, F__wide_big__less f__wide_big__less), (50, F__wide_big__minus f__wide_big__minus), (51, F_wide_signed64 f_wide_signed64)]) (.cons s__wide_big__shl (.cons s__wide_big__plus (.cons s__wide_big__shr (.cons s__wide_big__less (.cons s__wide_big__minus (.cons s_wide_signed64 (.nil _))))))) mixed (hs := ⟨[⟨5, [0, 1, 2, 3, 7, 8, 9, 10, 11, 12, 13, 14, 15, 16, 17, 18, 19, 20, 21, 22, 23, 24, 25, 26, 27, 28, 29, 30, 31, 32, 33, 34, 35, 36, 37, 38, 39, 40, 41, 42, 43, 44, 45, 46, 47, 48, 49, 50], []⟩], [⟨5, 0, @R_wide_Root_0 (@L_wide_Root_0)⟩], [], [], none⟩) (lf := 200) (Sums.by (l := [loopIn Try.prog 15 5]) (lj := []) (by kernel_rfl) ⟨so_wide_Root_0, trivial⟩ (by kernel_rfl) trivial) (by kernel_rfl)).by (F := F_wide_Root f_wide_Root) fun args b r hr => by
  obtain ⟨x0, x1, rfl, rfl, hr1⟩ := e_wide_Root hr
  exact inl_eval ((d_wide_Root f__wide_big__shl f__wide_big__plus f__wide_big__shr f__wide_big__less f__wide_big__minus f_wide_signed64 (@L_wide_Root_0) x0 x1).trans ((n_wide_Root (fun (d : Int × Bool) => some (Res.mk (AV.tup [RV.c (CV.f (FV.i IntKind.i64 d.fst)), RV.c (CV.f (FV.b d.snd))]) [] [])) x0 x1).symm.trans hr1))

def K_wide_Neg {ρ : Type} (g_wide_abs : Int → Int → Option (Int × Int × Bool)) (g_wide_signed : Int → Int → Bool → Option (Int × Int × Bool))  (x0 : Int) (x1 : Int) (k : (Int × Int × Bool) → Option ρ) : Option ρ :=
  Option.bind (g_wide_abs x0 x1) fun (d : Int × Int × Bool) =>
    Option.bind (g_wide_signed d.fst d.snd.fst !d.snd.snd) fun (d : Int × Int × Bool) => bif !d.snd.snd then k (0, 0, false) else k (d.fst, d.snd.fst, true)
def f_wide_Neg (x0 : Int) (x1 : Int) : Option (Int × Int × Bool) := K_wide_Neg f_wide_abs f_wide_signed  x0 x1 some
section
open Go.Ab.Rdr
def QA_wide_Neg := ((pair (cons (ar (ra (cons (gc (cf (fi .i64 hole))) (cons (gc (cf (fi .u64 hole))) nil)))) nil) nil) : Rdr (List AV × List Blk) _)
end
def F_wide_Neg (f : (Int) → (Int) → Option (Int × Int × Bool)) : Sem1 := fun args h => match (QA_wide_Neg).rd (args, h) with
  | some b => .opt (f b.1.1.1 b.1.1.2.1) fun (d : Int × Int × Bool) => .leaf (Res.mk (AV.tup [RV.agg [Sg.c (CV.f (FV.i IntKind.i64 d.fst)), Sg.c (CV.f (FV.i IntKind.u64 d.snd.fst))], RV.c (CV.f (FV.b d.snd.snd))]) [] [])
  | none => .fail
theorem d_wide_Neg (g_wide_abs : Int → Int → Option (Int × Int × Bool)) (g_wide_signed : Int → Int → Bool → Option (Int × Int × Bool))  (x0 : Int) (x1 : Int) : den Try.prog (envOf [(52, F_wide_abs g_wide_abs), (55, F_wide_signed g_wide_signed)]) ⟨[], [], [], [], none⟩ 200 19 [.r (.agg [.c (.f (.i .i64 x0)), .c (.f (.i .u64 x1))])] [] =
    K_wide_Neg g_wide_abs g_wide_signed  x0 x1 (fun (d : Int × Int × Bool) => some (Res.mk (AV.tup [RV.agg [Sg.c (CV.f (FV.i IntKind.i64 d.fst)), Sg.c (CV.f (FV.i IntKind.u64 d.snd.fst))], RV.c (CV.f (FV.b d.snd.snd))]) [] [])) := by kernel_rfl
theorem m_wide_Neg {ρ σ : Type} (q : ρ → Option σ) (g_wide_abs : Int → Int → Option (Int × Int × Bool)) (g_wide_signed : Int → Int → Bool → Option (Int × Int × Bool))   (x0 : Int) (x1 : Int) (k : (Int × Int × Bool) → Option ρ) : (K_wide_Neg g_wide_abs g_wide_signed  x0 x1 k).bind q = K_wide_Neg g_wide_abs g_wide_signed  x0 x1 (fun d => (k d).bind q) := by
  simp only [K_wide_Neg, bnd_cond, bnd_bind, bnd_none, bnd_sum]
theorem qa_wide_Neg : ∀ b, (QA_wide_Neg).em b = ([.r (.agg [.c (.f (.i .i64 b.1.1.1)), .c (.f (.i .u64 b.1.1.2.1))])], []) := fun b => by kernel_rfl
theorem e_wide_Neg {f : (Int) → (Int) → Option (Int × Int × Bool)} {args : List AV} {h : List Blk} {r : Res} (hr : (F_wide_Neg f args h).eval = some r) : ∃ x0 x1, args = [.r (.agg [.c (.f (.i .i64 x0)), .c (.f (.i .u64 x1))])] ∧ h = [] ∧ (f x0 x1).bind (fun (d : Int × Int × Bool) => some (Res.mk (AV.tup [RV.agg [Sg.c (CV.f (FV.i IntKind.i64 d.fst)), Sg.c (CV.f (FV.i IntKind.u64 d.snd.fst))], RV.c (CV.f (FV.b d.snd.snd))]) [] [])) = some r := by
  unfold F_wide_Neg at hr
  split at hr
  · rename_i b hb
    have e := ((QA_wide_Neg).ok _ _ hb).trans (qa_wide_Neg b)
    rw [opt_eval2] at hr
    exact ⟨b.1.1.1, b.1.1.2.1, (Prod.mk.inj e).1, (Prod.mk.inj e).2, hr⟩
  · cases hr
theorem n_wide_Neg {σ : Type} (q : (Int × Int × Bool) → Option σ) (x0 : Int) (x1 : Int) : (f_wide_Neg x0 x1).bind q = K_wide_Neg f_wide_abs f_wide_signed  x0 x1 q := by
  unfold f_wide_Neg
  exact m_wide_Neg q f_wide_abs f_wide_signed   x0 x1 some
theorem s_wide_Neg : Sound Try.prog 19 (F_wide_Neg f_wide_Neg) :=
  (inl_sound (l := [(52, F_wide_abs f_wide_abs), (55, F_wide_signed f_wide_signed)]) (.cons s_wide_abs (.cons s_wide_signed (.nil _))) mixed [] [] 200 (by kernel_rfl)).by (F := F_wide_Neg f_wide_Neg) fun args b r hr => by
  obtain ⟨x0, x1, rfl, rfl, hr1⟩ := e_wide_Neg hr
  exact inl_eval ((d_wide_Neg f_wide_abs f_wide_signed  x0 x1).trans ((n_wide_Neg (fun (d : Int × Int × Bool) => some (Res.mk (AV.tup [RV.agg [Sg.c (CV.f (FV.i IntKind.i64 d.fst)), Sg.c (CV.f (FV.i IntKind.u64 d.snd.fst))], RV.c (CV.f (FV.b d.snd.snd))]) [] [])) x0 x1).symm.trans hr1))

def K_wide_Shift {ρ : Type} (g_wide_abs64 : Int → Option Int) (g__wide_big__shl : Int → Int → Int → Option (Int × Int)) (g__wide_big__shr : Int → Int → Int → Option (Int × Int)) (g_wide_signed : Int → Int → Bool → Option (Int × Int × Bool))  (x0 : Int) (x1 : Int) (k : (Int × Int × Bool) → Option ρ) : Option ρ :=
  bif decide (x1 < 0) then k (0, 0, false)
  else
    bif decide (x1 > 127) then k (0, 0, false)
    else
      Option.bind (g_wide_abs64 x0) fun (d : Int) =>
        Option.bind (g__wide_big__shl 0 d x1) fun (d_1 : Int × Int) =>
          Option.bind (g__wide_big__shr d_1.fst d_1.snd x1) fun (d_2 : Int × Int) =>
            bif !(d_2.fst == 0 && (d_2.snd == d && true)) then k (0, 0, false)
            else Option.bind (g_wide_signed d_1.fst d_1.snd (decide (x0 < 0))) fun (d : Int × Int × Bool) => bif !d.snd.snd then k (0, 0, false) else k (d.fst, d.snd.fst, true)
def f_wide_Shift (x0 : Int) (x1 : Int) : Option (Int × Int × Bool) := K_wide_Shift f_wide_abs64 f__wide_big__shl f__wide_big__shr f_wide_signed  x0 x1 some
section
open Go.Ab.Rdr
def QA_wide_Shift := ((pair (cons (ar (rc (cf (fi .i64 hole)))) (cons (ar (rc (cf (fi .i64 hole)))) nil)) nil) : Rdr (List AV × List Blk) _)
end
def F_wide_Shift (f : (Int) → (Int) → Option (Int × Int × Bool)) : Sem1 := fun args h => match (QA_wide_Shift).rd (args, h) with
  | some b => .opt (f b.1.1 b.1.2.1) fun (d : Int × Int × Bool) => .leaf (Res.mk (AV.tup [RV.agg [Sg.c (CV.f (FV.i IntKind.i64 d.fst)), Sg.c (CV.f (FV.i IntKind.u64 d.snd.fst))], RV.c (CV.f (FV.b d.snd.snd))]) [] [])
  | none => .fail
theorem d_wide_Shift (g_wide_abs64 : Int → Option Int) (g__wide_big__shl : Int → Int → Int → Option (Int × Int)) (g__wide_big__shr : Int → Int → Int → Option (Int × Int)) (g_wide_signed : Int → Int → Bool → Option (Int × Int × Bool))  (x0 : Int) (x1 : Int) : den Try.prog (envOf [(53, F_wide_abs64 g_wide_abs64), (46, F__wide_big__shl g__wide_big__shl), (48, F__wide_big__shr g__wide_big__shr), (55, F_wide_signed g_wide_signed)]) ⟨[], [], [], [], none⟩ 200 31 [.r (.c (.f (.i .i64 x0))), .r (.c (.f (.i .i64 x1)))] [] =
    K_wide_Shift g_wide_abs64 g__wide_big__shl g__wide_big__shr g_wide_signed  x0 x1 (fun (d : Int × Int × Bool) => some (Res.mk (AV.tup [RV.agg [Sg.c (CV.f (FV.i IntKind.i64 d.fst)), Sg.c (CV.f (FV.i IntKind.u64 d.snd.fst))], RV.c (CV.f (FV.b d.snd.snd))]) [] [])) := by kernel_rfl
theorem m_wide_Shift {ρ σ : Type} (q : ρ → Option σ) (g_wide_abs64 : Int → Option Int) (g__wide_big__shl : Int → Int → Int → Option (Int × Int)) (g__wide_big__shr : Int → Int → Int → Option (Int × Int)) (g_wide_signed : Int → Int → Bool → Option (Int × Int × Bool))   (x0 : Int) (x1 : Int) (k : (Int × Int × Bool) → Option ρ) : (K_wide_Shift g_wide_abs64 g__wide_big__shl g__wide_big__shr g_wide_signed  x0 x1 k).bind q = K_wide_Shift g_wide_abs64 g__wide_big__shl g__wide_big__shr g_wide_signed  x0 x1 (fun d => (k d).bind q) := by
  simp only [K_wide_Shift, bnd_cond, bnd_bind, bnd_none, bnd_sum]
theorem qa_wide_Shift : ∀ b, (QA_wide_Shift).em b = ([.r (.c (.f (.i .i64 b.1.1))), .r (.c (.f (.i .i64 b.1.2.1)))], []) := fun b => by kernel_rfl
theorem e_wide_Shift {f : (Int) → (Int) → Option (Int × Int × Bool)} {args : List AV} {h : List Blk} {r : Res} (hr : (F_wide_Shift f args h).eval = some r) : ∃ x0 x1, args = [.r (.c (.f (.i .i64 x0))), .r (.c (.f (.i .i64 x1)))] ∧ h = [] ∧ (f x0 x1).bind (fun (d : Int × Int × Bool) => some (Res.mk (AV.tup [RV.agg [Sg.c (CV.f (FV.i IntKind.i64 d.fst)), Sg.c (CV.f (FV.i IntKind.u64 d.snd.fst))], RV.c (CV.f (FV.b d.snd.snd))]) [] [])) = some r := by
  unfold F_wide_Shift at hr
  split at hr
  · rename_i b hb
    have e := ((QA_wide_Shift).ok _ _ hb).trans (qa_wide_Shift b)
    rw [opt_eval2] at hr
    exact ⟨b.1.1, b.1.2.1, (Prod.mk.inj e).1, (Prod.mk.inj e).2, hr⟩
  · cases hr
theorem n_wide_Shift {σ : Type} (q : (Int × Int × Bool) → Option σ) (x0 : Int) (x1 : Int) : (f_wide_Shift x0 x1).bind q = K_wide_Shift f_wide_abs64 f__wide_big__shl f__wide_big__shr f_wide_signed  x0 x1 q := by
  unfold f_wide_Shift
  exact m_wide_Shift q f_wide_abs64 f__wide_big__shl f__wide_big__shr f_wide_signed   x0 x1 some
theorem s_wide_Shift : Sound Try.prog 31 (F_wide_Shift f_wide_Shift) :=
  (inl_sound (l := [(53, F_wide_abs64 f_wide_abs64), (46, F__wide_big__shl f__wide_big__shl), (48, F__wide_big__shr f__wide_big__shr), (55, F_wide_signed f_wide_signed)]) (.cons s_wide_abs64 (.cons s__wide_big__shl (.cons s__wide_big__shr (.cons s_wide_signed (.nil _))))) mixed [] [] 200 (by kernel_rfl)).by (F := F_wide_Shift f_wide_Shift) fun args b r hr => by
  obtain ⟨x0, x1, rfl, rfl, hr1⟩ := e_wide_Shift hr
  exact inl_eval ((d_wide_Shift f_wide_abs64 f__wide_big__shl f__wide_big__shr f_wide_signed  x0 x1).trans ((n_wide_Shift (fun (d : Int × Int × Bool) => some (Res.mk (AV.tup [RV.agg [Sg.c (CV.f (FV.i IntKind.i64 d.fst)), Sg.c (CV.f (FV.i IntKind.u64 d.snd.fst))], RV.c (CV.f (FV.b d.snd.snd))]) [] [])) x0 x1).symm.trans hr1))

def K_wide_Cmp {ρ : Type}   (x0 : Int) (x1 : Int) (x2 : Int) (x3 : Int) (k : (Int) → Option ρ) : Option ρ :=
  bif x0 == x2 && (x1 == x3 && true) then k 0 else bif decide (x0 < x2) then k (-1) else bif x0 == x2 then bif decide (x1 < x3) then k (-1) else k 1 else k 1
def f_wide_Cmp (x0 : Int) (x1 : Int) (x2 : Int) (x3 : Int) : Option (Int) := K_wide_Cmp   x0 x1 x2 x3 some
section
open Go.Ab.Rdr
def QA_wide_Cmp := ((pair (cons (ar (ra (cons (gc (cf (fi .i64 hole))) (cons (gc (cf (fi .u64 hole))) nil)))) (cons (ar (ra (cons (gc (cf (fi .i64 hole))) (cons (gc (cf (fi .u64 hole))) nil)))) nil)) nil) : Rdr (List AV × List Blk) _)
end
def F_wide_Cmp (f : (Int) → (Int) → (Int) → (Int) → Option (Int)) : Sem1 := fun args h => match (QA_wide_Cmp).rd (args, h) with
  | some b => .opt (f b.1.1.1 b.1.1.2.1 b.1.2.1.1 b.1.2.1.2.1) fun (d : Int) => .leaf (Res.mk (AV.r (RV.c (CV.f (FV.i IntKind.i64 d)))) [] [])
  | none => .fail
theorem d_wide_Cmp   (x0 : Int) (x1 : Int) (x2 : Int) (x3 : Int) : den Try.prog (envOf []) ⟨[], [], [], [], none⟩ 200 29 [.r (.agg [.c (.f (.i .i64 x0)), .c (.f (.i .u64 x1))]), .r (.agg [.c (.f (.i .i64 x2)), .c (.f (.i .u64 x3))])] [] =
    K_wide_Cmp   x0 x1 x2 x3 (fun (d : Int) => some (Res.mk (AV.r (RV.c (CV.f (FV.i IntKind.i64 d)))) [] [])) := by kernel_rfl
theorem m_wide_Cmp {ρ σ : Type} (q : ρ → Option σ)    (x0 : Int) (x1 : Int) (x2 : Int) (x3 : Int) (k : (Int) → Option ρ) : (K_wide_Cmp   x0 x1 x2 x3 k).bind q = K_wide_Cmp   x0 x1 x2 x3 (fun d => (k d).bind q) := by
  simp only [K_wide_Cmp, bnd_cond, bnd_bind, bnd_none, bnd_sum]
theorem qa_wide_Cmp : ∀ b, (QA_wide_Cmp).em b = ([.r (.agg [.c (.f (.i .i64 b.1.1.1)), .c (.f (.i .u64 b.1.1.2.1))]), .r (.agg [.c (.f (.i .i64 b.1.2.1.1)), .c (.f (.i .u64 b.1.2.1.2.1))])], []) := fun b => by kernel_rfl
theorem e_wide_Cmp {f : (Int) → (Int) → (Int) → (Int) → Option (Int)} {args : List AV} {h : List Blk} {r : Res} (hr : (F_wide_Cmp f args h).eval = some r) : ∃ x0 x1 x2 x3, args = [.r (.agg [.c (.f (.i .i64 x0)), .c (.f (.i .u64 x1))]), .r (.agg [.c (.f (.i .i64 x2)), .c (.f (.i .u64 x3))])] ∧ h = [] ∧ (f x0 x1 x2 x3).bind (fun (d : Int) => some (Res.mk (AV.r (RV.c (CV.f (FV.i IntKind.i64 d)))) [] [])) = some r := by
  unfold F_wide_Cmp at hr
  split at hr
  · rename_i b hb
    have e := ((QA_wide_Cmp).ok _ _ hb).trans (qa_wide_Cmp b)
    rw [opt_eval2] at hr
    exact ⟨b.1.1.1, b.1.1.2.1, b.1.2.1.1, b.1.2.1.2.1, (Prod.mk.inj e).1, (Prod.mk.inj e).2, hr⟩
  · cases hr
theorem n_wide_Cmp {σ : Type} (q : (Int) → Option σ) (x0 : Int) (x1 : Int) (x2 : Int) (x3 : Int) : (f_wide_Cmp x0 x1 x2 x3).bind q = K_wide_Cmp   x0 x1 x2 x3 q := by
  unfold f_wide_Cmp
  exact m_wide_Cmp q    x0 x1 x2 x3 some
theorem s_wide_Cmp : Sound Try.prog 29 (F_wide_Cmp f_wide_Cmp) :=
  (inl_sound (l := []) (.nil _) mixed [] [] 200 (by kernel_rfl)).by (F := F_wide_Cmp f_wide_Cmp) fun args b r hr => by
  obtain ⟨x0, x1, x2, x3, rfl, rfl, hr1⟩ := e_wide_Cmp hr
  exact inl_eval ((d_wide_Cmp   x0 x1 x2 x3).trans ((n_wide_Cmp (fun (d : Int) => some (Res.mk (AV.r (RV.c (CV.f (FV.i IntKind.i64 d)))) [] [])) x0 x1 x2 x3).symm.trans hr1))

end Go.Proofs.Ytcalippagaaikaa
