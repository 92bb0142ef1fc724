/-
  Contracts by plain functions: astrolaberef13.New, astrolaberef13.Less, astrolaberef13.Put
-/
import Derived.Test.YthbnojedlbeglaaRG1
set_option maxRecDepth 100000
set_option maxHeartbeats 4000000
set_option linter.unusedVariables false
namespace Go.Proofs.Ythbnojedlbeglaa
open Go.Ab
abbrev RG2t0 := Int × Int × Nat × Bool × Int × Int × Int × Int × Int × Int × Nat × NI × NI × NI × NI × NI × NI × NI × NI × NI × Int × Int × Int × Int × Int × Int × Int × Int × Int
abbrev RG2t1 := Int × Nat × Bool × Int × Bool × Int × Int × Int × Int × Int × Int × Int × Int × Int × Nat × Int × Int × Int × Int × Int × Int × Int × Int × Int × Bool × Bool × Int × Int × Int × Int × Int × Int × Int × Nat × NI × NI × NI × NI × NI × NI × NI × NI × NI
abbrev RG2t2 := Int × Nat × Bool × Int × Bool × Int × Int × Int × Int × Int × Int × Int × Nat × NI × NI × NI × NI × NI × NI × NI × NI × NI × Int × Int × Int × Int × Int × Int × Int × Int × Int
abbrev RG2g3 := Int → Int → Int → Int → Int → Int → Int → Int → Int → Int → Int → Int → Int → Int → Int → Int → Int → Int → Option Bool
abbrev RG2t4 := NI × NI × NI × NI × NI × NI × Int × Int × Int × Int × Int × Int × Int × Int × Int
abbrev RG2t5 := Int × Nat × Bool × Int × Int × Int × Int × Int × Int
abbrev RG2t6 := Int × Nat × Int × Int × Int × Int × Int × Int × NI × NI × NI × NI × NI × NI × NI × NI × NI
abbrev RG2t7 := Bool × Int × Nat × Int × Int × Int × Int × Int × Int × Nat × NI × NI × NI × NI × NI × NI × NI × NI × NI
abbrev RG2t8 := NI × NI × NI × NI × NI × Int × Int × Int × Int × Int × Int × Int × Int × Int
abbrev RG2t9 := NI × NI × NI × NI × NI × NI × NI × NI × Int × Int × Int × Int × Int × Int × Int × Int × Int
abbrev RG2t10 := NI × NI × NI × NI × NI × NI × NI × Int × Int × Int × Int × Int × Int × Int × Int × Int
abbrev RG2t11 := NI × NI × NI × NI × NI × NI × NI × NI
def K_astrolaberef13_New {ρ : Type} (x0 : Int) (k : (Int × NI) → Option ρ) : Option ρ := k (x0, fun (x : Nat) => 0)
def f_astrolaberef13_New (x0 : Int) : Option (Int × NI) := K_astrolaberef13_New   x0 some
section
open Go.Ab.Rdr
def QA_astrolaberef13_New := ((pair (cons (ar (rc (cf (fi .i64 hole)))) nil) nil) : Rdr (List AV × List Blk) _)
end
def F_astrolaberef13_New (f : (Int) → Option (Int × NI)) : Sem1 := fun args h => match (QA_astrolaberef13_New).rd (args, h) with
  | some b => .opt (f b.1.1) fun (d : Int × NI) => .leaf (Res.mk (AV.r (RV.c (CV.ptr 0 (Off.k 0) 8))) []
    [[Sg.c (fI d.1), Sg.c (CV.sl 1 (Off.k 0) (Sz.s 0) 9 true), Sg.c (fI (-9223372036854775808)), Sg.c (fI 0),
        Sg.c (fI 0), Sg.c (fI 0), Sg.c (fI 0), Sg.c (fI 0)],
      [Sg.a (Sz.s 0)
          [kI d.2, kI d.2, kI d.2, kI d.2, kI d.2, kI d.2, kI d.2,
            kI d.2, kI d.2]]])
  | none => .fail
theorem d_astrolaberef13_New (x0 : Int) : den Try.prog (envOf []) ⟨[], [], [], [], none⟩ 200 20 [.r (.c (.f (.i .i64 x0)))] [] = K_astrolaberef13_New x0 (fun (d : Int × NI) => some (Res.mk (AV.r (RV.c (CV.ptr 0 (Off.k 0) 8))) [] [[Sg.c (fI d.1), Sg.c (CV.sl 1 (Off.k 0) (Sz.s 0) 9 true),
  Sg.c (fI (-9223372036854775808)), Sg.c (fI 0), Sg.c (fI 0), Sg.c (fI 0), Sg.c (fI 0), Sg.c (fI 0)], [Sg.a (Sz.s 0) [kI d.2, kI d.2, kI d.2,
  kI d.2, kI d.2, kI d.2, kI d.2, kI d.2, kI d.2]]])) := by kernel_rfl
theorem m_astrolaberef13_New {ρ σ : Type} (q : ρ → Option σ)    (x0 : Int) (k : (Int × NI) → Option ρ) : (K_astrolaberef13_New   x0 k).bind q = K_astrolaberef13_New   x0 (fun d => (k d).bind q) := by
  simp only [K_astrolaberef13_New, bnd_cond, bnd_bind, bnd_none, bnd_sum]
theorem qa_astrolaberef13_New : ∀ b, (QA_astrolaberef13_New).em b = ([.r (.c (.f (.i .i64 b.1.1)))], []) := fun b => by kernel_rfl
theorem e_astrolaberef13_New {f : (Int) → Option (Int × NI)} {args : List AV} {h : List Blk} {r : Res} (hr : (F_astrolaberef13_New f args h).eval = some r) : ∃ x0, args = [.r (.c (.f (.i .i64 x0)))] ∧ h = [] ∧ (f x0).bind (fun (d : Int × NI) => some (Res.mk (AV.r (RV.c (CV.ptr 0 (Off.k 0) 8))) [] [[Sg.c (fI d.1),
  Sg.c (CV.sl 1 (Off.k 0) (Sz.s 0) 9 true), Sg.c (fI (-9223372036854775808)), Sg.c (fI 0), Sg.c (fI 0), Sg.c (fI 0), Sg.c (fI 0), Sg.c (fI 0)], [Sg.a (Sz.s 0) [kI d.2,
  kI d.2, kI d.2, kI d.2, kI d.2, kI d.2, kI d.2, kI d.2, kI d.2]]])) = some r := by
  unfold F_astrolaberef13_New at hr
  split at hr
  · rename_i b hb
    have e := ((QA_astrolaberef13_New).ok _ _ hb).trans (qa_astrolaberef13_New b)
    rw [opt_eval2] at hr
    exact ⟨b.1.1, (Prod.mk.inj e).1, (Prod.mk.inj e).2, hr⟩
  · cases hr
theorem n_astrolaberef13_New {σ : Type} (q : (Int × NI) → Option σ) (x0 : Int) : (f_astrolaberef13_New x0).bind q = K_astrolaberef13_New   x0 q := by
  unfold f_astrolaberef13_New
  exact m_astrolaberef13_New q    x0 some
theorem s_astrolaberef13_New [Amb] : Sound Try.prog 20 (F_astrolaberef13_New f_astrolaberef13_New) := (inl_sound (l := []) (.nil _) mixed [] [] 200 (by kernel_rfl)).by (F := F_astrolaberef13_New f_astrolaberef13_New) fun args b r hr => by
  obtain ⟨x0, rfl, rfl, hr1⟩ := e_astrolaberef13_New hr
  exact inl_eval ((d_astrolaberef13_New   x0).trans ((n_astrolaberef13_New (fun (d : Int × NI) => some (Res.mk (AV.r (RV.c (CV.ptr 0 (Off.k 0) 8))) []
    [[Sg.c (fI d.1), Sg.c (CV.sl 1 (Off.k 0) (Sz.s 0) 9 true), Sg.c (fI (-9223372036854775808)), Sg.c (fI 0),
        Sg.c (fI 0), Sg.c (fI 0), Sg.c (fI 0), Sg.c (fI 0)],
      [Sg.a (Sz.s 0)
          [kI d.2, kI d.2, kI d.2, kI d.2, kI d.2, kI d.2, kI d.2,
            kI d.2, kI d.2]]])) x0).symm.trans hr1))

def K_astrolaberef13_Less {ρ : Type} (x0 : Int) (x1 : Int) (x2 : Int) (x3 : Int) (x4 : Int) (x5 : Int) (x6 : Int) (x7 : Int) (x8 : Int) (x9 : Int) (x10 : Int) (x11 : Int) (x12 : Int) (x13 : Int) (x14 : Int) (x15 : Int) (x16 : Int) (x17 : Int) (k : (Bool) → Option ρ) : Option ρ := bif x0 != x9 then k (decide (x0 < x9)) else
  bif x1 != x10 then k (decide (x1 < x10)) else bif x2 != x11 then k (decide (x2 < x11)) else bif x3 != x12 then k (decide (x3 < x12)) else bif x4 != x13 then k (decide (x4 < x13)) else bif x5 != x14 then k (decide (x5 < x14)) else bif x6 != x15 then k (decide (x6 < x15)) else bif x7 != x16 then k (decide (x7 < x16)) else
  bif x8 != x17 then k (decide (x8 < x17)) else k false
def f_astrolaberef13_Less (x0 : Int) (x1 : Int) (x2 : Int) (x3 : Int) (x4 : Int) (x5 : Int) (x6 : Int) (x7 : Int) (x8 : Int) (x9 : Int) (x10 : Int) (x11 : Int) (x12 : Int) (x13 : Int) (x14 : Int) (x15 : Int) (x16 : Int) (x17 : Int) : Option (Bool) := K_astrolaberef13_Less   x0 x1 x2 x3 x4 x5 x6 x7 x8 x9 x10 x11 x12 x13 x14 x15 x16 x17 some
section
open Go.Ab.Rdr
def QA_astrolaberef13_Less := ((pair (cons (ar (ra (cons (gc (cf (fi .i64 hole))) (cons (gc (cf (fi .i64 hole))) (cons (gc (cf (fi .i64 hole))) (cons (gc (cf (fi .i64 hole))) (cons (gc (cf (fi .i64 hole))) (cons (gc (cf (fi .i64 hole))) (cons (gc (cf (fi .i64 hole))) (cons (gc (cf (fi .i64 hole))) (cons (gc (cf (fi .i64 hole))) nil))))))))))) (cons (ar (ra (cons (gc (cf (fi .i64 hole))) (cons (gc (cf (fi .i64 hole))) (cons (gc (cf (fi .i64 hole))) (cons (gc (cf (fi .i64 hole))) (cons (gc (cf (fi .i64 hole))) (cons (gc (cf (fi .i64 hole))) (cons (gc (cf (fi .i64 hole))) (cons (gc (cf (fi .i64 hole))) (cons (gc (cf (fi .i64 hole))) nil))))))))))) nil)) nil) : Rdr (List AV × List Blk) _)
end
def F_astrolaberef13_Less (f : (Int) → (Int) → (Int) → (Int) → (Int) → (Int) → (Int) → (Int) → (Int) → (Int) → (Int) → (Int) → (Int) → (Int) → (Int) → (Int) → (Int) → (Int) → Option (Bool)) : Sem1 := fun args h => match (QA_astrolaberef13_Less).rd (args, h) with
  | some b => .opt (f b.1.1.1 b.1.1.2.1 b.1.1.2.2.1 b.1.1.2.2.2.1 b.1.1.c4.1 b.1.1.c4.2.1 b.1.1.c4.2.2.1 b.1.1.c4.2.2.2.1 b.1.1.c8.1 b.1.2.1.1 b.1.2.1.2.1 b.1.2.1.2.2.1 b.1.2.1.2.2.2.1 b.1.2.1.c4.1 b.1.2.1.c4.2.1 b.1.2.1.c4.2.2.1 b.1.2.1.c4.2.2.2.1 b.1.2.1.c8.1) fun (d : Bool) => .leaf (Res.mk (AV.r (RV.c (CV.f (FV.b d)))) [] [])
  | none => .fail
theorem d_astrolaberef13_Less (x0 : Int) (x1 : Int) (x2 : Int) (x3 : Int) (x4 : Int) (x5 : Int) (x6 : Int) (x7 : Int) (x8 : Int) (x9 : Int) (x10 : Int) (x11 : Int) (x12 : Int) (x13 : Int) (x14 : Int) (x15 : Int) (x16 : Int) (x17 : Int) : den Try.prog (envOf []) ⟨[⟨4, [0, 1, 4, 6, 7, 8, 9, 10, 11, 12,
  13, 14, 15, 16, 17, 18, 19, 20, 21, 22, 23, 24, 25, 26, 27, 28, 29, 30, 31, 32, 33, 34, 35, 36, 37], []⟩], [], [], [], (some ⟨0, [0, 1, 2, 3, 5, 6, 7, 8, 9, 10, 11, 12, 13, 14, 15, 16, 17, 18, 19, 20, 21, 22, 23, 24, 25, 26, 27, 28, 29, 30, 31, 32, 33, 34, 35, 36, 37], []⟩)⟩ 200 28 [.r (.agg [.c (.f (.i .i64 x0)),
  .c (.f (.i .i64 x1)), .c (.f (.i .i64 x2)), .c (.f (.i .i64 x3)), .c (.f (.i .i64 x4)), .c (.f (.i .i64 x5)), .c (.f (.i .i64 x6)), .c (.f (.i .i64 x7)), .c (.f (.i .i64 x8))]), .r (.agg [.c (.f (.i .i64 x9)), .c (.f (.i .i64 x10)), .c (.f (.i .i64 x11)), .c (.f (.i .i64 x12)), .c (.f (.i .i64 x13)),
  .c (.f (.i .i64 x14)), .c (.f (.i .i64 x15)), .c (.f (.i .i64 x16)), .c (.f (.i .i64 x17))])] [] = K_astrolaberef13_Less x0 x1 x2 x3 x4 x5 x6 x7 x8 x9 x10 x11 x12 x13 x14 x15 x16 x17 (fun (d : Bool) => some (Res.mk (AV.r (RV.c (CV.f (FV.b d)))) [] [])) := by kernel_rfl
theorem m_astrolaberef13_Less {ρ σ : Type} (q : ρ → Option σ)    (x0 : Int) (x1 : Int) (x2 : Int) (x3 : Int) (x4 : Int) (x5 : Int) (x6 : Int) (x7 : Int) (x8 : Int) (x9 : Int) (x10 : Int) (x11 : Int) (x12 : Int) (x13 : Int) (x14 : Int) (x15 : Int) (x16 : Int) (x17 : Int) (k : (Bool) → Option ρ) : (K_astrolaberef13_Less   x0 x1 x2 x3 x4 x5 x6 x7 x8 x9 x10 x11 x12 x13 x14 x15 x16 x17 k).bind q = K_astrolaberef13_Less   x0 x1 x2 x3 x4 x5 x6 x7 x8 x9 x10 x11 x12 x13 x14 x15 x16 x17 (fun d => (k d).bind q) := by
  simp only [K_astrolaberef13_Less, bnd_cond, bnd_bind, bnd_none, bnd_sum]
theorem qa_astrolaberef13_Less : ∀ b, (QA_astrolaberef13_Less).em b = ([.r (.agg [.c (.f (.i .i64 b.1.1.1)), .c (.f (.i .i64 b.1.1.2.1)), .c (.f (.i .i64 b.1.1.2.2.1)), .c (.f (.i .i64 b.1.1.2.2.2.1)), .c (.f (.i .i64 b.1.1.c4.1)), .c (.f (.i .i64 b.1.1.c4.2.1)), .c (.f (.i .i64 b.1.1.c4.2.2.1)), .c (.f (.i .i64 b.1.1.c4.2.2.2.1)), .c (.f (.i .i64 b.1.1.c8.1))]), .r (.agg [.c (.f (.i .i64 b.1.2.1.1)), .c (.f (.i .i64 b.1.2.1.2.1)), .c (.f (.i .i64 b.1.2.1.2.2.1)), .c (.f (.i .i64 b.1.2.1.2.2.2.1)), .c (.f (.i .i64 b.1.2.1.c4.1)), .c (.f (.i .i64 b.1.2.1.c4.2.1)), .c (.f (.i .i64 b.1.2.1.c4.2.2.1)), .c (.f (.i .i64 b.1.2.1.c4.2.2.2.1)), .c (.f (.i .i64 b.1.2.1.c8.1))])], []) := fun b => by kernel_rfl
theorem e_astrolaberef13_Less {f : (Int) → (Int) → (Int) → (Int) → (Int) → (Int) → (Int) → (Int) → (Int) → (Int) → (Int) → (Int) → (Int) → (Int) → (Int) → (Int) → (Int) → (Int) → Option (Bool)} {args : List AV} {h : List Blk} {r : Res} (hr : (F_astrolaberef13_Less f args h).eval = some r) : ∃ x0 x1 x2 x3 x4 x5 x6 x7 x8 x9 x10 x11 x12 x13 x14 x15 x16 x17, args = [.r (.agg [.c (.f (.i .i64 x0)), .c (.f (.i .i64 x1)), .c (.f (.i .i64 x2)), .c (.f (.i .i64 x3)), .c (.f (.i .i64 x4)), .c (.f (.i .i64 x5)), .c (.f (.i .i64 x6)), .c (.f (.i .i64 x7)), .c (.f (.i .i64 x8))]), .r (.agg [.c (.f (.i .i64 x9)), .c (.f (.i .i64 x10)), .c (.f (.i .i64 x11)), .c (.f (.i .i64 x12)), .c (.f (.i .i64 x13)), .c (.f (.i .i64 x14)), .c (.f (.i .i64 x15)), .c (.f (.i .i64 x16)), .c (.f (.i .i64 x17))])] ∧ h = [] ∧ (f x0 x1 x2 x3 x4 x5 x6 x7 x8 x9 x10 x11 x12 x13 x14 x15 x16 x17).bind (fun (d : Bool) => some (Res.mk (AV.r (RV.c (CV.f (FV.b d)))) [] [])) = some r := by
  unfold F_astrolaberef13_Less at hr
  split at hr
  · rename_i b hb
    have e := ((QA_astrolaberef13_Less).ok _ _ hb).trans (qa_astrolaberef13_Less b)
    rw [opt_eval2] at hr
    exact ⟨b.1.1.1, b.1.1.2.1, b.1.1.2.2.1, b.1.1.2.2.2.1, b.1.1.c4.1, b.1.1.c4.2.1, b.1.1.c4.2.2.1, b.1.1.c4.2.2.2.1, b.1.1.c8.1, b.1.2.1.1, b.1.2.1.2.1, b.1.2.1.2.2.1, b.1.2.1.2.2.2.1, b.1.2.1.c4.1, b.1.2.1.c4.2.1, b.1.2.1.c4.2.2.1, b.1.2.1.c4.2.2.2.1, b.1.2.1.c8.1, (Prod.mk.inj e).1, (Prod.mk.inj e).2, hr⟩
  · cases hr
theorem n_astrolaberef13_Less {σ : Type} (q : (Bool) → Option σ) (x0 : Int) (x1 : Int) (x2 : Int) (x3 : Int) (x4 : Int) (x5 : Int) (x6 : Int) (x7 : Int) (x8 : Int) (x9 : Int) (x10 : Int) (x11 : Int) (x12 : Int) (x13 : Int) (x14 : Int) (x15 : Int) (x16 : Int) (x17 : Int) : (f_astrolaberef13_Less x0 x1 x2 x3 x4 x5 x6 x7 x8 x9 x10 x11 x12 x13 x14 x15 x16 x17).bind q = K_astrolaberef13_Less   x0 x1 x2 x3 x4 x5 x6 x7 x8 x9 x10 x11 x12 x13 x14 x15 x16 x17 q := by
  unfold f_astrolaberef13_Less
  exact m_astrolaberef13_Less q    x0 x1 x2 x3 x4 x5 x6 x7 x8 x9 x10 x11 x12 x13 x14 x15 x16 x17 some
theorem s_astrolaberef13_Less [Amb] : Sound Try.prog 28 (F_astrolaberef13_Less f_astrolaberef13_Less) := (inl_sums (l := []) (.nil _) mixed (hs := ⟨[⟨4, [0, 1, 4, 6, 7, 8, 9, 10, 11, 12, 13, 14, 15, 16, 17, 18, 19, 20, 21, 22, 23, 24, 25, 26, 27, 28, 29, 30, 31, 32, 33, 34, 35, 36, 37], []⟩], [],
  [], [], (some ⟨0, [0, 1, 2, 3, 5, 6, 7, 8, 9, 10, 11, 12, 13, 14, 15, 16, 17, 18, 19, 20, 21, 22, 23, 24, 25, 26, 27, 28, 29, 30, 31, 32, 33, 34, 35, 36, 37], []⟩)⟩) (lf := 200) (Sums.by (l := [loopIn Try.prog 28 4]) (lj := []) (by kernel_rfl) ⟨SumOK.no (by kernel_rfl), trivial⟩ (by kernel_rfl) trivial) (by kernel_rfl)).by (F := F_astrolaberef13_Less f_astrolaberef13_Less) fun args b r hr => by
  obtain ⟨x0, x1, x2, x3, x4, x5, x6, x7, x8, x9, x10, x11, x12, x13, x14, x15, x16, x17, rfl, rfl, hr1⟩ := e_astrolaberef13_Less hr
  exact inl_eval ((d_astrolaberef13_Less   x0 x1 x2 x3 x4 x5 x6 x7 x8 x9 x10 x11 x12 x13 x14 x15 x16 x17).trans ((n_astrolaberef13_Less (fun (d : Bool) => some (Res.mk (AV.r (RV.c (CV.f (FV.b d)))) [] [])) x0 x1 x2 x3 x4 x5 x6 x7 x8 x9 x10 x11 x12 x13 x14 x15 x16 x17).symm.trans hr1))

def S_astrolaberef13_Put_0 {ρ : Type} (g_astrolaberef13_Less : RG2g3) (x0 : Int) (x1 : Int) (x2 : Nat) (x3 : Bool) (x4 : Int) (x5 : Int) (x6 : Int) (x7 : Int) (x8 : Int) (x9 : Int) (x10 : Nat) (x11 : Nat →
  Int) (x12 : Nat → Int) (x13 : Nat → Int) (x14 : Nat → Int) (x15 : Nat → Int) (x16 : Nat → Int) (x17 : Nat → Int) (x18 : Nat → Int) (x19 : Nat → Int) (x20 : Int) (x21 : Int) (x22 : Int) (x23 : Int) (x24 : Int) (x25 : Int) (x26 : Int) (x27 : Int) (x28 : Int) (c : (RG2t0) → Option ρ) (x : (RG2t1 ⊕ RG2t2) → Option ρ) : Option ρ := bif decide (x0 < Int.ofNat x2) then bif inR x0 x2 then Option.bind (g_astrolaberef13_Less x20 x21 x22 x23 x24 x25 x26 x27 x28 (x11 (Int.toNat x0)) (x12 (Int.toNat x0)) (x13 (Int.toNat x0)) (x14 (Int.toNat x0)) (x15 (Int.toNat x0)) (x16 (Int.toNat x0)) (x17 (Int.toNat x0)) (x18 (Int.toNat x0)) (x19 (Int.toNat x0))) fun (d : Bool) => bif !d then
  c (IntKind.wrap IntKind.i64 (x0 + 1), x1, x2, x3, x4, x5, x6, x7, x8, x9, x10, x11, x12, x13, x14, x15, x16, x17, x18, x19, x20, x21, x22, x23, x24, x25, x26, x27, x28) else x (Sum.inl (x0, x2, x3, Int.ofNat x2, decide (x0 < Int.ofNat x2), x20, x21, x22, x23, x24, x25, x26, x27, x28, Int.toNat x0, x11 (Int.toNat x0),
  x12 (Int.toNat x0), x13 (Int.toNat x0), x14 (Int.toNat x0), x15 (Int.toNat x0), x16 (Int.toNat x0), x17 (Int.toNat x0), x18 (Int.toNat x0), x19 (Int.toNat x0), d, !d, x1, x4, x5, x6, x7, x8, x9, x10, x11, x12, x13, x14, x15, x16, x17, x18, x19)) else none else x (Sum.inr (x0, x2, x3, Int.ofNat x2, decide (x0 < Int.ofNat x2),
  x1, x4, x5, x6, x7, x8, x9, x10, x11, x12, x13, x14, x15, x16, x17, x18, x19, x20, x21, x22, x23, x24, x25, x26, x27, x28))
section
open Go.Ab.Rdr
def Q_astrolaberef13_Put_0 := (st (cons (ar (rc (cptr (nat 0) (ok' (nat 0)) (nat 8)))) (cons aund (cons aund (cons (ar (rc (cptr (nat 2) (ok' (nat 0)) (nat 9)))) (cons aund (cons (ar (rc (cf (fi .i64 hole)))) (cons aund (cons (atup nil) (cons aund (cons aund (cons aund (cons aund (cons aund (cons aund (cons aund (cons aund (cons aund (cons aund (cons aund (cons aund (cons aund (cons aund (cons aund (cons aund (cons aund (cons aund (cons aund (cons aund (cons aund (cons aund (cons aund (cons aund (cons aund (cons aund (cons aund (cons aund (cons aund (cons aund (cons aund (cons aund (cons aund (cons aund (cons aund (cons aund (cons aund (cons aund (cons aund (cons aund (cons aund (cons aund (cons aund (cons aund (cons aund (cons aund (cons aund (cons aund (cons aund (cons aund (cons aund (cons aund (cons aund (cons aund (cons aund (cons aund (cons aund (cons aund (cons aund (cons aund (cons aund (cons aund (cons aund (cons aund (cons aund (cons aund (cons aund (cons aund (cons aund (cons aund (cons aund (cons aund (cons aund (cons aund (cons aund (cons aund (cons aund (cons aund (cons aund (cons aund (cons aund (cons aund (cons aund (cons aund (cons aund (cons aund (cons aund (cons aund (cons aund (cons aund (cons aund (cons aund (cons aund (cons aund (cons aund (cons aund (cons aund (cons aund (cons aund (cons aund (cons aund (cons aund (cons aund (cons aund (cons aund (cons aund (cons aund nil))))))))))))))))))))))))))))))))))))))))))))))))))))))))))))))))))))))))))))))))))))))))))))))))))))))))))))))))))) (cons (some' (cons (gc (cf (fi .i64 hole))) (cons (gc (csl (nat 1) (ok' (nat 0)) (szs hole) (nat 9) hole)) (cons (gc (cf (fi .i64 hole))) (cons (gc (cf (fi .i64 hole))) (cons (gc (cf (fi .i64 hole))) (cons (gc (cf (fi .i64 hole))) (cons (gc (cf (fi .i64 hole))) (cons (gc (cf (fi .i64 hole))) nil))))))))) (cons (some' (cons (ga (szs hole) (cons (ki .i64 hole) (cons (ki .i64 hole) (cons (ki .i64 hole) (cons (ki .i64 hole) (cons (ki .i64 hole) (cons (ki .i64 hole) (cons (ki .i64 hole) (cons (ki .i64 hole) (cons (ki .i64 hole) nil)))))))))) nil)) (cons (some' (cons (gc (cf (fi .i64 hole))) (cons (gc (cf (fi .i64 hole))) (cons (gc (cf (fi .i64 hole))) (cons (gc (cf (fi .i64 hole))) (cons (gc (cf (fi .i64 hole))) (cons (gc (cf (fi .i64 hole))) (cons (gc (cf (fi .i64 hole))) (cons (gc (cf (fi .i64 hole))) (cons (gc (cf (fi .i64 hole))) nil)))))))))) nil))) (cons (nat 0) nil))
end
theorem q_astrolaberef13_Put_0 : ∀ b, (Q_astrolaberef13_Put_0).em b = St.mk [AV.r (RV.c (CV.ptr 0 (Off.k 0) 8)), und, und, AV.r (RV.c (CV.ptr 2 (Off.k 0) 9)), und, AV.r (RV.c (fI b.1.c4.2.1)), und, AV.tup [], und, und, und, und, und, und, und,
  und, und, und, und, und, und, und, und, und, und, und, und, und, und, und, und, und, und, und, und, und, und, und, und, und, und, und, und, und, und, und, und, und, und, und, und, und, und,
  und, und, und, und, und, und, und, und, und, und, und, und, und, und, und, und, und, und, und, und, und, und, und, und, und, und, und, und, und, und, und, und, und, und, und, und, und, und,
  und, und, und, und, und, und, und, und, und, und, und, und, und, und, und, und, und, und, und, und, und, und, und, und] [some [Sg.c (fI b.2.1.1.1), Sg.c (CV.sl 1 (Off.k 0) (Sz.s b.2.1.1.2.1.2.2.1) 9 b.2.1.1.2.1.c4),
  Sg.c (fI b.2.1.1.2.2.1), Sg.c (fI b.2.1.1.2.2.2.1), Sg.c (fI b.2.1.1.c4.1), Sg.c (fI b.2.1.1.c4.2.1), Sg.c (fI b.2.1.1.c4.2.2.1), Sg.c (fI b.2.1.1.c4.2.2.2.1)],
  some [Sg.a (Sz.s b.2.1.2.1.1.1) [kI b.2.1.2.1.1.2.1, kI b.2.1.2.1.1.2.2.1, kI b.2.1.2.1.1.2.2.2.1, kI b.2.1.2.1.1.c4.1, kI b.2.1.2.1.1.c4.2.1, kI b.2.1.2.1.1.c4.2.2.1, kI b.2.1.2.1.1.c4.2.2.2.1,
  kI b.2.1.2.1.1.c8.1, kI b.2.1.2.1.1.c8.2.1]], some [Sg.c (fI b.2.1.2.2.1.1), Sg.c (fI b.2.1.2.2.1.2.1), Sg.c (fI b.2.1.2.2.1.2.2.1), Sg.c (fI b.2.1.2.2.1.2.2.2.1),
  Sg.c (fI b.2.1.2.2.1.c4.1), Sg.c (fI b.2.1.2.2.1.c4.2.1), Sg.c (fI b.2.1.2.2.1.c4.2.2.1), Sg.c (fI b.2.1.2.2.1.c4.2.2.2.1), Sg.c (fI b.2.1.2.2.1.c8.1)]] [0] := fun b => by kernel_rfl
def R_astrolaberef13_Put_0 (l : ∀ {ρ : Type}, (RG2t0) → ((Int ×
  Nat × Bool × Int × Bool × Int × Int × Int × Int × Int × Int × Int × Int × Int × Nat × Int × Int × Int × Int × Int × Int × Int × Int × Int × Bool × Bool × Int × Int × Int × Int × Int × Int × Int × Nat × NI × NI × NI × NI × NI × NI × NI × (Nat →
  Int) × NI ⊕ RG2t2) → Option ρ) → Option ρ) {ρ : Type} (s : St) (K : AX →
  St → Option ρ) : Option ρ := ((Q_astrolaberef13_Put_0).rd s).bind fun b => l (b.1.c4.2.1, b.2.1.1.1, b.2.1.1.2.1.2.2.1, b.2.1.1.2.1.c4, b.2.1.1.2.2.1, b.2.1.1.2.2.2.1, b.2.1.1.c4.1, b.2.1.1.c4.2.1, b.2.1.1.c4.2.2.1, b.2.1.1.c4.2.2.2.1, b.2.1.2.1.1.1, b.2.1.2.1.1.2.1, b.2.1.2.1.1.2.2.1,
  b.2.1.2.1.1.2.2.2.1, b.2.1.2.1.1.c4.1, b.2.1.2.1.1.c4.2.1, b.2.1.2.1.1.c4.2.2.1, b.2.1.2.1.1.c4.2.2.2.1, b.2.1.2.1.1.c8.1, b.2.1.2.1.1.c8.2.1, b.2.1.2.2.1.1, b.2.1.2.2.1.2.1, b.2.1.2.2.1.2.2.1, b.2.1.2.2.1.2.2.2.1, b.2.1.2.2.1.c4.1, b.2.1.2.2.1.c4.2.1,
  b.2.1.2.2.1.c4.2.2.1, b.2.1.2.2.1.c4.2.2.2.1, b.2.1.2.2.1.c8.1) (Sum.elim (fun d => K (AX.ex 0) (St.mk [AV.r (RV.c (CV.ptr 0 (Off.k 0) 8)), und, und, AV.r (RV.c (CV.ptr 2 (Off.k 0) 9)), und, AV.r (RV.c (fI d.1)), und, AV.tup [], und, und,
  und, und, und, und, und, und, und, und, und, und, und, und, und, und, und, und, und, und, und, und, und, und, und, AV.r (RV.c (fI d.1)), AV.r (RV.c (CV.ptr 0 (Off.k 0) 8)), AV.r (RV.c (CV.ptr 0 (Off.k 0) 8)),
  AV.r (RV.c (CV.ptr 0 (Off.k 1) 1)), AV.r (RV.c (CV.sl 1 (Off.k 0) (Sz.s d.2.1) 9 d.2.2.1)), AV.r (RV.c (fI d.2.2.2.1)), AV.r (RV.c (CV.f (FV.b d.c4.1))), AV.r (RV.c (CV.f (FV.b true))), AV.r (RV.agg [Sg.c (fI d.c4.2.1),
  Sg.c (fI d.c4.2.2.1), Sg.c (fI d.c4.2.2.2.1), Sg.c (fI d.c8.1), Sg.c (fI d.c8.2.1), Sg.c (fI d.c8.2.2.1),
  Sg.c (fI d.c8.2.2.2.1), Sg.c (fI d.c8.c4.1), Sg.c (fI d.c8.c4.2.1)]), AV.r (RV.c (CV.ptr 0 (Off.k 0) 8)), AV.r (RV.c (CV.ptr 0 (Off.k 0) 8)),
  AV.r (RV.c (CV.ptr 0 (Off.k 1) 1)), AV.r (RV.c (CV.sl 1 (Off.k 0) (Sz.s d.2.1) 9 d.2.2.1)), AV.r (RV.c (fI d.1)), AV.r (RV.c (CV.ptr 1 (Off.x 0 d.c8.c4.2.2.1 9) 9)), AV.r (RV.agg [Sg.c (fI d.c8.c4.2.2.2.1),
  Sg.c (fI d.c16.1), Sg.c (fI d.c16.2.1), Sg.c (fI d.c16.2.2.1),
  Sg.c (fI d.c16.2.2.2.1), Sg.c (fI d.c16.c4.1), Sg.c (fI d.c16.c4.2.1),
  Sg.c (fI d.c16.c4.2.2.1), Sg.c (fI d.c16.c4.2.2.2.1)]), AV.r (RV.c (CV.f (FV.b d.c16.c8.1))),
  AV.r (RV.c (CV.f (FV.b d.c16.c8.2.1))), AV.r (RV.c (CV.f (FV.b d.c16.c8.2.1))), und, und, und, und, und,
  und, und, und, und, und, und, und, und, und, und, und, und, und, und, und, und, und, und, und, und, und, und, und, und, und, und, und, und, und, und, und, und, und, und, und, und, und, und,
  und, und, und, und, und, und, und, und, und, und, und, und, und, und, und, und, und, und, und, und] [some [Sg.c (fI d.c16.c8.2.2.1),
  Sg.c (CV.sl 1 (Off.k 0) (Sz.s d.2.1) 9 d.2.2.1), Sg.c (fI d.c16.c8.2.2.2.1), Sg.c (fI d.c16.c8.c4.1),
  Sg.c (fI d.c16.c8.c4.2.1), Sg.c (fI d.c16.c8.c4.2.2.1),
  Sg.c (fI d.c16.c8.c4.2.2.2.1), Sg.c (fI d.c16.c16.1)],
  some [Sg.a (Sz.s d.c16.c16.2.1) [kI d.c16.c16.2.2.1,
  kI d.c16.c16.2.2.2.1, kI d.c16.c16.c4.1,
  kI d.c16.c16.c4.2.1, kI d.c16.c16.c4.2.2.1,
  kI d.c16.c16.c4.2.2.2.1, kI d.c16.c16.c8.1,
  kI d.c16.c16.c8.2.1, kI d.c16.c16.c8.2.2]],
  some [Sg.c (fI d.c4.2.1), Sg.c (fI d.c4.2.2.1), Sg.c (fI d.c4.2.2.2.1), Sg.c (fI d.c8.1), Sg.c (fI d.c8.2.1),
  Sg.c (fI d.c8.2.2.1), Sg.c (fI d.c8.2.2.2.1), Sg.c (fI d.c8.c4.1), Sg.c (fI d.c8.c4.2.1)]] [0])) (fun d => K (AX.ex 0) (St.mk [AV.r (RV.c (CV.ptr 0 (Off.k 0) 8)),
  und, und, AV.r (RV.c (CV.ptr 2 (Off.k 0) 9)), und, AV.r (RV.c (fI d.1)), und, AV.tup [], und, und, und, und, und, und, und, und, und, und, und, und, und, und, und, und, und, und, und, und, und, und, und,
  und, und, AV.r (RV.c (fI d.1)), AV.r (RV.c (CV.ptr 0 (Off.k 0) 8)), AV.r (RV.c (CV.ptr 0 (Off.k 0) 8)), AV.r (RV.c (CV.ptr 0 (Off.k 1) 1)), AV.r (RV.c (CV.sl 1 (Off.k 0) (Sz.s d.2.1) 9 d.2.2.1)), AV.r (RV.c (fI d.2.2.2.1)), AV.r (RV.c (CV.f (FV.b d.c4.1))),
  AV.r (RV.c (CV.f (FV.b false))), AV.tup [], AV.tup [], AV.tup [], AV.tup [], AV.tup [], AV.tup [], AV.tup [], AV.tup [], AV.tup [], AV.tup [], AV.r (RV.c (CV.f (FV.b false))), und, und, und, und, und, und, und, und, und, und, und, und, und, und, und, und,
  und, und, und, und, und, und, und, und, und, und, und, und, und, und, und, und, und, und, und, und, und, und, und, und, und, und, und, und, und, und, und, und, und, und, und, und, und, und,
  und, und, und, und, und, und, und, und, und] [some [Sg.c (fI d.c4.2.1), Sg.c (CV.sl 1 (Off.k 0) (Sz.s d.2.1) 9 d.2.2.1), Sg.c (fI d.c4.2.2.1), Sg.c (fI d.c4.2.2.2.1),
  Sg.c (fI d.c8.1), Sg.c (fI d.c8.2.1), Sg.c (fI d.c8.2.2.1), Sg.c (fI d.c8.2.2.2.1)],
  some [Sg.a (Sz.s d.c8.c4.1) [kI d.c8.c4.2.1, kI d.c8.c4.2.2.1, kI d.c8.c4.2.2.2.1,
  kI d.c16.1, kI d.c16.2.1, kI d.c16.2.2.1, kI d.c16.2.2.2.1,
  kI d.c16.c4.1, kI d.c16.c4.2.1]], some [Sg.c (fI d.c16.c4.2.2.1),
  Sg.c (fI d.c16.c4.2.2.2.1), Sg.c (fI d.c16.c8.1), Sg.c (fI d.c16.c8.2.1),
  Sg.c (fI d.c16.c8.2.2.1), Sg.c (fI d.c16.c8.2.2.2.1), Sg.c (fI d.c16.c8.c4.1),
  Sg.c (fI d.c16.c8.c4.2.1), Sg.c (fI d.c16.c8.c4.2.2)]] [0])))
theorem ms_astrolaberef13_Put_0 {ρ σ : Type} (g_astrolaberef13_Less : RG2g3) (q : ρ → Option σ) (x0 : Int) (x1 : Int) (x2 : Nat) (x3 : Bool) (x4 : Int) (x5 : Int) (x6 : Int) (x7 : Int) (x8 : Int) (x9 : Int) (x10 : Nat) (x11 : Nat →
  Int) (x12 : Nat → Int) (x13 : Nat → Int) (x14 : Nat → Int) (x15 : Nat → Int) (x16 : Nat → Int) (x17 : Nat → Int) (x18 : Nat → Int) (x19 : Nat → Int) (x20 : Int) (x21 : Int) (x22 : Int) (x23 : Int) (x24 : Int) (x25 : Int) (x26 : Int) (x27 : Int) (x28 : Int) (c : (RG2t0) → Option ρ) (x : (RG2t1 ⊕ RG2t2) → Option ρ) : (S_astrolaberef13_Put_0 g_astrolaberef13_Less x0 x1 x2 x3 x4 x5 x6 x7 x8 x9 x10 x11 x12 x13 x14 x15 x16 x17 x18 x19 x20 x21 x22 x23 x24 x25 x26 x27 x28 c x).bind q = S_astrolaberef13_Put_0 g_astrolaberef13_Less x0 x1 x2 x3 x4 x5 x6 x7 x8 x9 x10 x11 x12 x13 x14 x15 x16 x17 x18 x19 x20 x21 x22 x23 x24 x25 x26 x27 x28 (fun d => (c d).bind q) (fun d => (x d).bind q) := by
  simp only [S_astrolaberef13_Put_0, bnd_cond, bnd_bind, bnd_none, bnd_sum]
def L_astrolaberef13_Put_0 {ρ : Type} (d : RG2t0) (k : (Int ×
  Nat × Bool × Int × Bool × Int × Int × Int × Int × Int × Int × Int × Int × Int × Nat × Int × Int × Int × Int × Int × Int × Int × Int × Int × Bool × Bool × Int × Int × Int × Int × Int × Int × Int × Nat × NI × NI × NI × NI × NI × NI × NI × (Nat →
  Int) × NI ⊕ RG2t2) → Option ρ) : Option ρ := loopK (fun d c x => S_astrolaberef13_Put_0 f_astrolaberef13_Less d.1 d.2.1 d.2.2.1 d.2.2.2.1 d.c4.1 d.c4.2.1 d.c4.2.2.1 d.c4.2.2.2.1 d.c8.1 d.c8.2.1 d.c8.2.2.1 d.c8.2.2.2.1 d.c8.c4.1 d.c8.c4.2.1 d.c8.c4.2.2.1 d.c8.c4.2.2.2.1 d.c16.1 d.c16.2.1 d.c16.2.2.1 d.c16.2.2.2.1 d.c16.c4.1 d.c16.c4.2.1 d.c16.c4.2.2.1 d.c16.c4.2.2.2.1 d.c16.c8.1 d.c16.c8.2.1 d.c16.c8.2.2.1 d.c16.c8.2.2.2.1 d.c16.c8.c4 c x) 200 d k
theorem mL_astrolaberef13_Put_0 {ρ σ : Type} (q : ρ → Option σ) (d : RG2t0) (k : (Int × Nat × Bool × Int × Bool × Int × Int × Int × Int × Int × Int × Int × Int × Int × Nat × Int × Int × Int × Int × Int × Int × Int × Int × Int × Bool × Bool × Int × Int × Int × Int × Int × Int × Int × Nat × NI × NI × NI × NI × NI × (Nat →
  Int) × NI × NI × NI ⊕ RG2t2) → Option ρ) : (L_astrolaberef13_Put_0 d k).bind q = L_astrolaberef13_Put_0 d fun x => (k x).bind q := loopK_bind q (fun d c x => ms_astrolaberef13_Put_0 f_astrolaberef13_Less q d.1 d.2.1 d.2.2.1 d.2.2.2.1 d.c4.1 d.c4.2.1 d.c4.2.2.1 d.c4.2.2.2.1 d.c8.1 d.c8.2.1 d.c8.2.2.1 d.c8.2.2.2.1 d.c8.c4.1 d.c8.c4.2.1 d.c8.c4.2.2.1 d.c8.c4.2.2.2.1 d.c16.1 d.c16.2.1 d.c16.2.2.1 d.c16.2.2.2.1 d.c16.c4.1 d.c16.c4.2.1 d.c16.c4.2.2.1 d.c16.c4.2.2.2.1 d.c16.c8.1 d.c16.c8.2.1 d.c16.c8.2.2.1 d.c16.c8.2.2.2.1 d.c16.c8.c4 c x) k _ d
theorem ds_astrolaberef13_Put_0 {ρ : Type} (g_astrolaberef13_Less : RG2g3) (l_0 : ∀ {ρ : Type}, (RG2t0) → ((RG2t1 ⊕ Int × Nat × Bool × Int × Bool × Int × Int × Int × Int × Int × Int × Int × Nat × NI × NI × (Nat →
  Int) × RG2t4) → Option ρ) → Option ρ) (x0 : Int) (x1 : Int) (x2 : Nat) (x3 : Bool) (x4 : Int) (x5 : Int) (x6 : Int) (x7 : Int) (x8 : Int) (x9 : Int) (x10 : Nat) (x11 : Nat →
  Int) (x12 : Nat → Int) (x13 : Nat → Int) (x14 : Nat → Int) (x15 : Nat → Int) (x16 : Nat → Int) (x17 : Nat → Int) (x18 : Nat → Int) (x19 : Nat → Int) (x20 : Int) (x21 : Int) (x22 : Int) (x23 : Int) (x24 : Int) (x25 : Int) (x26 : Int) (x27 : Int) (x28 : Int) (c : St → Option ρ) (K : AX → St → Option ρ) : runC Try.prog (envOf [(28,
  F_astrolaberef13_Less g_astrolaberef13_Less)]) ⟨[⟨6, [1, 2, 4, 6, 8, 9, 10, 11, 12, 13, 14, 15, 16, 17, 18, 19, 20, 21, 22, 23, 24, 25, 26, 27, 28, 29, 30, 31, 32, 33, 34, 35, 36, 37, 38, 39, 40, 51, 52, 53, 54, 55, 56, 57, 58, 59, 60, 61, 62, 63, 64, 65, 66, 67, 68, 69, 70, 71, 72, 73, 74, 75, 76, 77,
  78, 79, 80, 81, 82, 83, 84, 85, 86, 87, 88, 89, 90, 91, 92, 93, 94, 95, 96, 97, 98, 99, 100, 101, 102, 103, 104, 105, 106, 107, 108, 109, 110, 111, 112, 113, 114, 41, 42, 43, 44, 45, 46, 47, 48, 49, 50], []⟩], [⟨6, 2, @R_astrolaberef13_Put_0 (@l_0)⟩], [], [], (some ⟨0, [0, 1, 2, 3, 5, 6, 7, 8, 9, 10,
  11, 12, 13, 14, 15, 16, 17, 18, 19, 20, 21, 22, 23, 24, 25, 26, 27, 28, 29, 30, 31, 32, 33, 34, 35, 36, 37, 38, 39, 40, 41, 42, 43, 44, 45, 46, 47, 48, 49, 50, 51, 52, 53, 54, 55, 56, 57, 58, 59, 60, 61, 62, 63, 64, 65, 66, 67, 68, 69, 70, 71, 72, 73, 74, 75, 76, 77, 78, 79, 80, 81, 82, 83, 84, 85, 86,
  87, 88, 89, 90, 91, 92, 93, 94, 95, 96, 97, 98, 99, 100, 101, 102, 103, 104, 105, 106, 107, 108, 109, 110, 111, 112, 113, 114], []⟩)⟩ (tmpsOf Try.prog 21) 2 200 (loopIn Try.prog 21 6) (St.mk [AV.r (RV.c (CV.ptr 0 (Off.k 0) 8)), und, und, AV.r (RV.c (CV.ptr 2 (Off.k 0) 9)), und, AV.r (RV.c (fI x0)),
  und, AV.tup [], und, und, und, und, und, und, und, und, und, und, und, und, und, und, und, und, und, und, und, und, und, und, und, und, und, und, und, und, und, und, und, und, und, und, und, und,
  und, und, und, und, und, und, und, und, und, und, und, und, und, und, und, und, und, und, und, und, und, und, und, und, und, und, und, und, und, und, und, und, und, und, und, und, und, und,
  und, und, und, und, und, und, und, und, und, und, und, und, und, und, und, und, und, und, und, und, und, und, und, und, und, und, und, und, und, und, und, und, und] [some [Sg.c (fI x1),
  Sg.c (CV.sl 1 (Off.k 0) (Sz.s x2) 9 x3), Sg.c (fI x4), Sg.c (fI x5), Sg.c (fI x6), Sg.c (fI x7), Sg.c (fI x8), Sg.c (fI x9)], some [Sg.a (Sz.s x10) [kI x11, kI x12,
  kI x13, kI x14, kI x15, kI x16, kI x17, kI x18, kI x19]], some [Sg.c (fI x20), Sg.c (fI x21), Sg.c (fI x22), Sg.c (fI x23),
  Sg.c (fI x24), Sg.c (fI x25), Sg.c (fI x26), Sg.c (fI x27), Sg.c (fI x28)]] [0]) (next (fun t => t.head 2 ⟨[⟨6, [1, 2, 4, 6, 8, 9, 10, 11, 12, 13, 14, 15, 16, 17, 18, 19, 20, 21, 22, 23, 24, 25, 26,
  27, 28, 29, 30, 31, 32, 33, 34, 35, 36, 37, 38, 39, 40, 51, 52, 53, 54, 55, 56, 57, 58, 59, 60, 61, 62, 63, 64, 65, 66, 67, 68, 69, 70, 71, 72, 73, 74, 75, 76, 77, 78, 79, 80, 81, 82, 83, 84, 85, 86, 87, 88, 89, 90, 91, 92, 93, 94, 95, 96, 97, 98, 99, 100, 101, 102, 103, 104, 105, 106, 107, 108, 109,
  110, 111, 112, 113, 114, 41, 42, 43, 44, 45, 46, 47, 48, 49, 50], []⟩], [⟨6, 2, @R_astrolaberef13_Put_0 (@l_0)⟩], [], [], (some ⟨0, [0, 1, 2, 3, 5, 6, 7, 8, 9, 10, 11, 12, 13, 14, 15, 16, 17, 18, 19, 20, 21, 22, 23, 24, 25, 26, 27, 28, 29, 30, 31, 32, 33, 34, 35, 36, 37, 38, 39, 40, 41, 42, 43, 44, 45,
  46, 47, 48, 49, 50, 51, 52, 53, 54, 55, 56, 57, 58, 59, 60, 61, 62, 63, 64, 65, 66, 67, 68, 69, 70, 71, 72, 73, 74, 75, 76, 77, 78, 79, 80, 81, 82, 83, 84, 85, 86, 87, 88, 89, 90, 91, 92, 93, 94, 95, 96, 97, 98, 99, 100, 101, 102, 103, 104, 105, 106, 107, 108, 109, 110, 111, 112, 113, 114], []⟩)⟩ (loopIn Try.prog 21 6)) c K) = S_astrolaberef13_Put_0 g_astrolaberef13_Less x0 x1 x2 x3 x4 x5 x6 x7 x8 x9 x10 x11 x12 x13 x14 x15 x16 x17 x18 x19 x20 x21 x22 x23 x24 x25 x26 x27 x28 (fun d => c (St.mk [AV.r (RV.c (CV.ptr 0 (Off.k 0) 8)),
  und, und, AV.r (RV.c (CV.ptr 2 (Off.k 0) 9)), und, AV.r (RV.c (fI d.1)), und, AV.tup [], und, und, und, und, und, und, und, und, und, und, und, und, und, und, und, und, und, und, und, und, und, und, und,
  und, und, und, und, und, und, und, und, und, und, und, und, und, und, und, und, und, und, und, und, und, und, und, und, und, und, und, und, und, und, und, und, und, und, und, und, und, und,
  und, und, und, und, und, und, und, und, und, und, und, und, und, und, und, und, und, und, und, und, und, und, und, und, und, und, und, und, und, und, und, und, und, und, und, und, und, und,
  und, und, und, und, und, und, und, und] [some [Sg.c (fI d.2.1), Sg.c (CV.sl 1 (Off.k 0) (Sz.s d.2.2.1) 9 d.2.2.2.1), Sg.c (fI d.c4.1), Sg.c (fI d.c4.2.1), Sg.c (fI d.c4.2.2.1),
  Sg.c (fI d.c4.2.2.2.1), Sg.c (fI d.c8.1), Sg.c (fI d.c8.2.1)], some [Sg.a (Sz.s d.c8.2.2.1) [kI d.c8.2.2.2.1,
  kI d.c8.c4.1, kI d.c8.c4.2.1, kI d.c8.c4.2.2.1, kI d.c8.c4.2.2.2.1,
  kI d.c16.1, kI d.c16.2.1, kI d.c16.2.2.1, kI d.c16.2.2.2.1]],
  some [Sg.c (fI d.c16.c4.1), Sg.c (fI d.c16.c4.2.1), Sg.c (fI d.c16.c4.2.2.1),
  Sg.c (fI d.c16.c4.2.2.2.1), Sg.c (fI d.c16.c8.1), Sg.c (fI d.c16.c8.2.1),
  Sg.c (fI d.c16.c8.2.2.1), Sg.c (fI d.c16.c8.2.2.2.1), Sg.c (fI d.c16.c8.c4)]] [0])) (Sum.elim (fun d => K (AX.ex 0) (St.mk [AV.r (RV.c (CV.ptr 0 (Off.k 0) 8)),
  und, und, AV.r (RV.c (CV.ptr 2 (Off.k 0) 9)), und, AV.r (RV.c (fI d.1)), und, AV.tup [], und, und, und, und, und, und, und, und, und, und, und, und, und, und, und, und, und, und, und, und, und, und, und,
  und, und, AV.r (RV.c (fI d.1)), AV.r (RV.c (CV.ptr 0 (Off.k 0) 8)), AV.r (RV.c (CV.ptr 0 (Off.k 0) 8)), AV.r (RV.c (CV.ptr 0 (Off.k 1) 1)), AV.r (RV.c (CV.sl 1 (Off.k 0) (Sz.s d.2.1) 9 d.2.2.1)), AV.r (RV.c (fI d.2.2.2.1)), AV.r (RV.c (CV.f (FV.b d.c4.1))),
  AV.r (RV.c (CV.f (FV.b true))), AV.r (RV.agg [Sg.c (fI d.c4.2.1), Sg.c (fI d.c4.2.2.1), Sg.c (fI d.c4.2.2.2.1), Sg.c (fI d.c8.1),
  Sg.c (fI d.c8.2.1), Sg.c (fI d.c8.2.2.1), Sg.c (fI d.c8.2.2.2.1), Sg.c (fI d.c8.c4.1),
  Sg.c (fI d.c8.c4.2.1)]), AV.r (RV.c (CV.ptr 0 (Off.k 0) 8)), AV.r (RV.c (CV.ptr 0 (Off.k 0) 8)), AV.r (RV.c (CV.ptr 0 (Off.k 1) 1)), AV.r (RV.c (CV.sl 1 (Off.k 0) (Sz.s d.2.1) 9 d.2.2.1)), AV.r (RV.c (fI d.1)),
  AV.r (RV.c (CV.ptr 1 (Off.x 0 d.c8.c4.2.2.1 9) 9)), AV.r (RV.agg [Sg.c (fI d.c8.c4.2.2.2.1), Sg.c (fI d.c16.1),
  Sg.c (fI d.c16.2.1), Sg.c (fI d.c16.2.2.1), Sg.c (fI d.c16.2.2.2.1),
  Sg.c (fI d.c16.c4.1), Sg.c (fI d.c16.c4.2.1), Sg.c (fI d.c16.c4.2.2.1),
  Sg.c (fI d.c16.c4.2.2.2.1)]), AV.r (RV.c (CV.f (FV.b d.c16.c8.1))), AV.r (RV.c (CV.f (FV.b d.c16.c8.2.1))),
  AV.r (RV.c (CV.f (FV.b d.c16.c8.2.1))), und, und, und, und, und, und, und, und, und, und, und, und, und, und, und, und, und, und, und, und, und,
  und, und, und, und, und, und, und, und, und, und, und, und, und, und, und, und, und, und, und, und, und, und, und, und, und, und, und, und, und, und, und, und, und, und, und, und, und, und,
  und, und, und, und] [some [Sg.c (fI d.c16.c8.2.2.1), Sg.c (CV.sl 1 (Off.k 0) (Sz.s d.2.1) 9 d.2.2.1), Sg.c (fI d.c16.c8.2.2.2.1),
  Sg.c (fI d.c16.c8.c4.1), Sg.c (fI d.c16.c8.c4.2.1),
  Sg.c (fI d.c16.c8.c4.2.2.1), Sg.c (fI d.c16.c8.c4.2.2.2.1),
  Sg.c (fI d.c16.c16.1)], some [Sg.a (Sz.s d.c16.c16.2.1) [kI d.c16.c16.2.2.1,
  kI d.c16.c16.2.2.2.1, kI d.c16.c16.c4.1,
  kI d.c16.c16.c4.2.1, kI d.c16.c16.c4.2.2.1,
  kI d.c16.c16.c4.2.2.2.1, kI d.c16.c16.c8.1,
  kI d.c16.c16.c8.2.1, kI d.c16.c16.c8.2.2]],
  some [Sg.c (fI d.c4.2.1), Sg.c (fI d.c4.2.2.1), Sg.c (fI d.c4.2.2.2.1), Sg.c (fI d.c8.1), Sg.c (fI d.c8.2.1),
  Sg.c (fI d.c8.2.2.1), Sg.c (fI d.c8.2.2.2.1), Sg.c (fI d.c8.c4.1), Sg.c (fI d.c8.c4.2.1)]] [0])) (fun d => K (AX.ex 0) (St.mk [AV.r (RV.c (CV.ptr 0 (Off.k 0) 8)),
  und, und, AV.r (RV.c (CV.ptr 2 (Off.k 0) 9)), und, AV.r (RV.c (fI d.1)), und, AV.tup [], und, und, und, und, und, und, und, und, und, und, und, und, und, und, und, und, und, und, und, und, und, und, und,
  und, und, AV.r (RV.c (fI d.1)), AV.r (RV.c (CV.ptr 0 (Off.k 0) 8)), AV.r (RV.c (CV.ptr 0 (Off.k 0) 8)), AV.r (RV.c (CV.ptr 0 (Off.k 1) 1)), AV.r (RV.c (CV.sl 1 (Off.k 0) (Sz.s d.2.1) 9 d.2.2.1)), AV.r (RV.c (fI d.2.2.2.1)), AV.r (RV.c (CV.f (FV.b d.c4.1))),
  AV.r (RV.c (CV.f (FV.b false))), AV.tup [], AV.tup [], AV.tup [], AV.tup [], AV.tup [], AV.tup [], AV.tup [], AV.tup [], AV.tup [], AV.tup [], AV.r (RV.c (CV.f (FV.b false))), und, und, und, und, und, und, und, und, und, und, und, und, und, und, und, und,
  und, und, und, und, und, und, und, und, und, und, und, und, und, und, und, und, und, und, und, und, und, und, und, und, und, und, und, und, und, und, und, und, und, und, und, und, und, und,
  und, und, und, und, und, und, und, und, und] [some [Sg.c (fI d.c4.2.1), Sg.c (CV.sl 1 (Off.k 0) (Sz.s d.2.1) 9 d.2.2.1), Sg.c (fI d.c4.2.2.1), Sg.c (fI d.c4.2.2.2.1),
  Sg.c (fI d.c8.1), Sg.c (fI d.c8.2.1), Sg.c (fI d.c8.2.2.1), Sg.c (fI d.c8.2.2.2.1)],
  some [Sg.a (Sz.s d.c8.c4.1) [kI d.c8.c4.2.1, kI d.c8.c4.2.2.1, kI d.c8.c4.2.2.2.1,
  kI d.c16.1, kI d.c16.2.1, kI d.c16.2.2.1, kI d.c16.2.2.2.1,
  kI d.c16.c4.1, kI d.c16.c4.2.1]], some [Sg.c (fI d.c16.c4.2.2.1),
  Sg.c (fI d.c16.c4.2.2.2.1), Sg.c (fI d.c16.c8.1), Sg.c (fI d.c16.c8.2.1),
  Sg.c (fI d.c16.c8.2.2.1), Sg.c (fI d.c16.c8.2.2.2.1), Sg.c (fI d.c16.c8.c4.1),
  Sg.c (fI d.c16.c8.c4.2.1), Sg.c (fI d.c16.c8.c4.2.2)]] [0]))) := by kernel_rfl
theorem it_astrolaberef13_Put_0 {ρ : Type} (x0 : Int) (x1 : Int) (x2 : Nat) (x3 : Bool) (x4 : Int) (x5 : Int) (x6 : Int) (x7 : Int) (x8 : Int) (x9 : Int) (x10 : Nat) (x11 : Nat → Int) (x12 : Nat → Int) (x13 : Nat → Int) (x14 : Nat → Int) (x15 : Nat → Int) (x16 : Nat → Int) (x17 : Nat → Int) (x18 : Nat →
  Int) (x19 : Nat → Int) (x20 : Int) (x21 : Int) (x22 : Int) (x23 : Int) (x24 : Int) (x25 : Int) (x26 : Int) (x27 : Int) (x28 : Int) (K : AX → St → Option ρ) : iter (fun t => t.head 2 ⟨[⟨6, [1, 2, 4, 6, 8, 9, 10, 11, 12, 13, 14, 15, 16, 17, 18, 19, 20, 21, 22, 23, 24, 25, 26, 27, 28, 29, 30, 31, 32, 33,
  34, 35, 36, 37, 38, 39, 40, 51, 52, 53, 54, 55, 56, 57, 58, 59, 60, 61, 62, 63, 64, 65, 66, 67, 68, 69, 70, 71, 72, 73, 74, 75, 76, 77, 78, 79, 80, 81, 82, 83, 84, 85, 86, 87, 88, 89, 90, 91, 92, 93, 94, 95, 96, 97, 98, 99, 100, 101, 102, 103, 104, 105, 106, 107, 108, 109, 110, 111, 112, 113, 114, 41,
  42, 43, 44, 45, 46, 47, 48, 49, 50], []⟩], [⟨6, 2, @R_astrolaberef13_Put_0 (@L_astrolaberef13_Put_0)⟩], [], [], (some ⟨0, [0, 1, 2, 3, 5, 6, 7, 8, 9, 10, 11, 12, 13, 14, 15, 16, 17, 18, 19, 20, 21, 22, 23, 24, 25, 26, 27, 28, 29, 30, 31, 32, 33, 34, 35, 36, 37, 38, 39, 40, 41, 42, 43, 44, 45, 46, 47,
  48, 49, 50, 51, 52, 53, 54, 55, 56, 57, 58, 59, 60, 61, 62, 63, 64, 65, 66, 67, 68, 69, 70, 71, 72, 73, 74, 75, 76, 77, 78, 79, 80, 81, 82, 83, 84, 85, 86, 87, 88, 89, 90, 91, 92, 93, 94, 95, 96, 97, 98, 99, 100, 101, 102, 103, 104, 105, 106, 107, 108, 109, 110, 111, 112, 113, 114], []⟩)⟩ (loopIn Try.prog 21 6)) (runC Try.prog (envOf [(28,
  F_astrolaberef13_Less f_astrolaberef13_Less)]) ⟨[⟨6, [1, 2, 4, 6, 8, 9, 10, 11, 12, 13, 14, 15, 16, 17, 18, 19, 20, 21, 22, 23, 24, 25, 26, 27, 28, 29, 30, 31, 32, 33, 34, 35, 36, 37, 38, 39, 40, 51, 52, 53, 54, 55, 56, 57, 58, 59, 60, 61, 62, 63, 64, 65, 66, 67, 68, 69, 70, 71, 72, 73, 74, 75, 76, 77,
  78, 79, 80, 81, 82, 83, 84, 85, 86, 87, 88, 89, 90, 91, 92, 93, 94, 95, 96, 97, 98, 99, 100, 101, 102, 103, 104, 105, 106, 107, 108, 109, 110, 111, 112, 113, 114, 41, 42, 43, 44, 45, 46, 47, 48, 49, 50], []⟩], [⟨6, 2, @R_astrolaberef13_Put_0 (@L_astrolaberef13_Put_0)⟩], [], [], (some ⟨0, [0, 1, 2, 3,
  5, 6, 7, 8, 9, 10, 11, 12, 13, 14, 15, 16, 17, 18, 19, 20, 21, 22, 23, 24, 25, 26, 27, 28, 29, 30, 31, 32, 33, 34, 35, 36, 37, 38, 39, 40, 41, 42, 43, 44, 45, 46, 47, 48, 49, 50, 51, 52, 53, 54, 55, 56, 57, 58, 59, 60, 61, 62, 63, 64, 65, 66, 67, 68, 69, 70, 71, 72, 73, 74, 75, 76, 77, 78, 79, 80, 81,
  82, 83, 84, 85, 86, 87, 88, 89, 90, 91, 92, 93, 94, 95, 96, 97, 98, 99, 100, 101, 102, 103, 104, 105, 106, 107, 108, 109, 110, 111, 112, 113, 114], []⟩)⟩ (tmpsOf Try.prog 21) 2 200 (loopIn Try.prog 21 6)) K 200 (St.mk [AV.r (RV.c (CV.ptr 0 (Off.k 0) 8)), und, und, AV.r (RV.c (CV.ptr 2 (Off.k 0) 9)),
  und, AV.r (RV.c (fI x0)), und, AV.tup [], und, und, und, und, und, und, und, und, und, und, und, und, und, und, und, und, und, und, und, und, und, und, und, und, und, und, und, und, und,
  und, und, und, und, und, und, und, und, und, und, und, und, und, und, und, und, und, und, und, und, und, und, und, und, und, und, und, und, und, und, und, und, und, und, und, und, und, und,
  und, und, und, und, und, und, und, und, und, und, und, und, und, und, und, und, und, und, und, und, und, und, und, und, und, und, und, und, und, und, und, und, und, und, und, und, und, und,
  und, und] [some [Sg.c (fI x1), Sg.c (CV.sl 1 (Off.k 0) (Sz.s x2) 9 x3), Sg.c (fI x4), Sg.c (fI x5), Sg.c (fI x6), Sg.c (fI x7), Sg.c (fI x8), Sg.c (fI x9)],
  some [Sg.a (Sz.s x10) [kI x11, kI x12, kI x13, kI x14, kI x15, kI x16, kI x17, kI x18, kI x19]], some [Sg.c (fI x20), Sg.c (fI x21),
  Sg.c (fI x22), Sg.c (fI x23), Sg.c (fI x24), Sg.c (fI x25), Sg.c (fI x26), Sg.c (fI x27), Sg.c (fI x28)]] [0]) = L_astrolaberef13_Put_0 (x0, x1, x2, x3, x4,
  x5, x6, x7, x8, x9, x10, x11, x12, x13, x14, x15, x16, x17, x18, x19, x20, x21, x22, x23, x24, x25, x26, x27, x28) (Sum.elim (fun d => K (AX.ex 0) (St.mk [AV.r (RV.c (CV.ptr 0 (Off.k 0) 8)), und, und, AV.r (RV.c (CV.ptr 2 (Off.k 0) 9)), und, AV.r (RV.c (fI d.1)), und,
  AV.tup [], und, und, und, und, und, und, und, und, und, und, und, und, und, und, und, und, und, und, und, und, und, und, und, und, und, AV.r (RV.c (fI d.1)), AV.r (RV.c (CV.ptr 0 (Off.k 0) 8)), AV.r (RV.c (CV.ptr 0 (Off.k 0) 8)),
  AV.r (RV.c (CV.ptr 0 (Off.k 1) 1)), AV.r (RV.c (CV.sl 1 (Off.k 0) (Sz.s d.2.1) 9 d.2.2.1)), AV.r (RV.c (fI d.2.2.2.1)), AV.r (RV.c (CV.f (FV.b d.c4.1))), AV.r (RV.c (CV.f (FV.b true))), AV.r (RV.agg [Sg.c (fI d.c4.2.1),
  Sg.c (fI d.c4.2.2.1), Sg.c (fI d.c4.2.2.2.1), Sg.c (fI d.c8.1), Sg.c (fI d.c8.2.1), Sg.c (fI d.c8.2.2.1),
  Sg.c (fI d.c8.2.2.2.1), Sg.c (fI d.c8.c4.1), Sg.c (fI d.c8.c4.2.1)]), AV.r (RV.c (CV.ptr 0 (Off.k 0) 8)), AV.r (RV.c (CV.ptr 0 (Off.k 0) 8)),
  AV.r (RV.c (CV.ptr 0 (Off.k 1) 1)), AV.r (RV.c (CV.sl 1 (Off.k 0) (Sz.s d.2.1) 9 d.2.2.1)), AV.r (RV.c (fI d.1)), AV.r (RV.c (CV.ptr 1 (Off.x 0 d.c8.c4.2.2.1 9) 9)), AV.r (RV.agg [Sg.c (fI d.c8.c4.2.2.2.1),
  Sg.c (fI d.c16.1), Sg.c (fI d.c16.2.1), Sg.c (fI d.c16.2.2.1),
  Sg.c (fI d.c16.2.2.2.1), Sg.c (fI d.c16.c4.1), Sg.c (fI d.c16.c4.2.1),
  Sg.c (fI d.c16.c4.2.2.1), Sg.c (fI d.c16.c4.2.2.2.1)]), AV.r (RV.c (CV.f (FV.b d.c16.c8.1))),
  AV.r (RV.c (CV.f (FV.b d.c16.c8.2.1))), AV.r (RV.c (CV.f (FV.b d.c16.c8.2.1))), und, und, und, und, und,
  und, und, und, und, und, und, und, und, und, und, und, und, und, und, und, und, und, und, und, und, und, und, und, und, und, und, und, und, und, und, und, und, und, und, und, und, und, und,
  und, und, und, und, und, und, und, und, und, und, und, und, und, und, und, und, und, und, und, und] [some [Sg.c (fI d.c16.c8.2.2.1),
  Sg.c (CV.sl 1 (Off.k 0) (Sz.s d.2.1) 9 d.2.2.1), Sg.c (fI d.c16.c8.2.2.2.1), Sg.c (fI d.c16.c8.c4.1),
  Sg.c (fI d.c16.c8.c4.2.1), Sg.c (fI d.c16.c8.c4.2.2.1),
  Sg.c (fI d.c16.c8.c4.2.2.2.1), Sg.c (fI d.c16.c16.1)],
  some [Sg.a (Sz.s d.c16.c16.2.1) [kI d.c16.c16.2.2.1,
  kI d.c16.c16.2.2.2.1, kI d.c16.c16.c4.1,
  kI d.c16.c16.c4.2.1, kI d.c16.c16.c4.2.2.1,
  kI d.c16.c16.c4.2.2.2.1, kI d.c16.c16.c8.1,
  kI d.c16.c16.c8.2.1, kI d.c16.c16.c8.2.2]],
  some [Sg.c (fI d.c4.2.1), Sg.c (fI d.c4.2.2.1), Sg.c (fI d.c4.2.2.2.1), Sg.c (fI d.c8.1), Sg.c (fI d.c8.2.1),
  Sg.c (fI d.c8.2.2.1), Sg.c (fI d.c8.2.2.2.1), Sg.c (fI d.c8.c4.1), Sg.c (fI d.c8.c4.2.1)]] [0])) (fun d => K (AX.ex 0) (St.mk [AV.r (RV.c (CV.ptr 0 (Off.k 0) 8)),
  und, und, AV.r (RV.c (CV.ptr 2 (Off.k 0) 9)), und, AV.r (RV.c (fI d.1)), und, AV.tup [], und, und, und, und, und, und, und, und, und, und, und, und, und, und, und, und, und, und, und, und, und, und, und,
  und, und, AV.r (RV.c (fI d.1)), AV.r (RV.c (CV.ptr 0 (Off.k 0) 8)), AV.r (RV.c (CV.ptr 0 (Off.k 0) 8)), AV.r (RV.c (CV.ptr 0 (Off.k 1) 1)), AV.r (RV.c (CV.sl 1 (Off.k 0) (Sz.s d.2.1) 9 d.2.2.1)), AV.r (RV.c (fI d.2.2.2.1)), AV.r (RV.c (CV.f (FV.b d.c4.1))),
  AV.r (RV.c (CV.f (FV.b false))), AV.tup [], AV.tup [], AV.tup [], AV.tup [], AV.tup [], AV.tup [], AV.tup [], AV.tup [], AV.tup [], AV.tup [], AV.r (RV.c (CV.f (FV.b false))), und, und, und, und, und, und, und, und, und, und, und, und, und, und, und, und,
  und, und, und, und, und, und, und, und, und, und, und, und, und, und, und, und, und, und, und, und, und, und, und, und, und, und, und, und, und, und, und, und, und, und, und, und, und, und,
  und, und, und, und, und, und, und, und, und] [some [Sg.c (fI d.c4.2.1), Sg.c (CV.sl 1 (Off.k 0) (Sz.s d.2.1) 9 d.2.2.1), Sg.c (fI d.c4.2.2.1), Sg.c (fI d.c4.2.2.2.1),
  Sg.c (fI d.c8.1), Sg.c (fI d.c8.2.1), Sg.c (fI d.c8.2.2.1), Sg.c (fI d.c8.2.2.2.1)],
  some [Sg.a (Sz.s d.c8.c4.1) [kI d.c8.c4.2.1, kI d.c8.c4.2.2.1, kI d.c8.c4.2.2.2.1,
  kI d.c16.1, kI d.c16.2.1, kI d.c16.2.2.1, kI d.c16.2.2.2.1,
  kI d.c16.c4.1, kI d.c16.c4.2.1]], some [Sg.c (fI d.c16.c4.2.2.1),
  Sg.c (fI d.c16.c4.2.2.2.1), Sg.c (fI d.c16.c8.1), Sg.c (fI d.c16.c8.2.1),
  Sg.c (fI d.c16.c8.2.2.1), Sg.c (fI d.c16.c8.2.2.2.1), Sg.c (fI d.c16.c8.c4.1),
  Sg.c (fI d.c16.c8.c4.2.1), Sg.c (fI d.c16.c8.c4.2.2)]] [0]))) := iter_loopX (emb := fun (d : RG2t0) => St.mk [AV.r (RV.c (CV.ptr 0 (Off.k 0) 8)), und, und,
  AV.r (RV.c (CV.ptr 2 (Off.k 0) 9)), und, AV.r (RV.c (fI d.1)), und, AV.tup [], und, und, und, und, und, und, und, und, und, und, und, und, und, und, und, und, und, und, und, und, und, und, und, und, und,
  und, und, und, und, und, und, und, und, und, und, und, und, und, und, und, und, und, und, und, und, und, und, und, und, und, und, und, und, und, und, und, und, und, und, und, und, und, und,
  und, und, und, und, und, und, und, und, und, und, und, und, und, und, und, und, und, und, und, und, und, und, und, und, und, und, und, und, und, und, und, und, und, und, und, und, und, und,
  und, und, und, und, und, und] [some [Sg.c (fI d.2.1), Sg.c (CV.sl 1 (Off.k 0) (Sz.s d.2.2.1) 9 d.2.2.2.1), Sg.c (fI d.c4.1), Sg.c (fI d.c4.2.1), Sg.c (fI d.c4.2.2.1),
  Sg.c (fI d.c4.2.2.2.1), Sg.c (fI d.c8.1), Sg.c (fI d.c8.2.1)], some [Sg.a (Sz.s d.c8.2.2.1) [kI d.c8.2.2.2.1,
  kI d.c8.c4.1, kI d.c8.c4.2.1, kI d.c8.c4.2.2.1, kI d.c8.c4.2.2.2.1,
  kI d.c16.1, kI d.c16.2.1, kI d.c16.2.2.1, kI d.c16.2.2.2.1]],
  some [Sg.c (fI d.c16.c4.1), Sg.c (fI d.c16.c4.2.1), Sg.c (fI d.c16.c4.2.2.1),
  Sg.c (fI d.c16.c4.2.2.2.1), Sg.c (fI d.c16.c8.1), Sg.c (fI d.c16.c8.2.1),
  Sg.c (fI d.c16.c8.2.2.1), Sg.c (fI d.c16.c8.2.2.2.1), Sg.c (fI d.c16.c8.c4)]] [0]) (step := fun d c x => S_astrolaberef13_Put_0 f_astrolaberef13_Less d.1 d.2.1 d.2.2.1 d.2.2.2.1 d.c4.1 d.c4.2.1 d.c4.2.2.1 d.c4.2.2.2.1 d.c8.1 d.c8.2.1 d.c8.2.2.1 d.c8.2.2.2.1 d.c8.c4.1 d.c8.c4.2.1 d.c8.c4.2.2.1 d.c8.c4.2.2.2.1 d.c16.1 d.c16.2.1 d.c16.2.2.1 d.c16.2.2.2.1 d.c16.c4.1 d.c16.c4.2.1 d.c16.c4.2.2.1 d.c16.c4.2.2.2.1 d.c16.c8.1 d.c16.c8.2.1 d.c16.c8.2.2.1 d.c16.c8.2.2.2.1 d.c16.c8.c4 c x) (kx := (Sum.elim (fun d => K (AX.ex 0) (St.mk [AV.r (RV.c (CV.ptr 0 (Off.k 0) 8)),
  und, und, AV.r (RV.c (CV.ptr 2 (Off.k 0) 9)), und, AV.r (RV.c (fI d.1)), und, AV.tup [], und, und, und, und, und, und, und, und, und, und, und, und, und, und, und, und, und, und, und, und, und, und, und,
  und, und, AV.r (RV.c (fI d.1)), AV.r (RV.c (CV.ptr 0 (Off.k 0) 8)), AV.r (RV.c (CV.ptr 0 (Off.k 0) 8)), AV.r (RV.c (CV.ptr 0 (Off.k 1) 1)), AV.r (RV.c (CV.sl 1 (Off.k 0) (Sz.s d.2.1) 9 d.2.2.1)), AV.r (RV.c (fI d.2.2.2.1)), AV.r (RV.c (CV.f (FV.b d.c4.1))),
  AV.r (RV.c (CV.f (FV.b true))), AV.r (RV.agg [Sg.c (fI d.c4.2.1), Sg.c (fI d.c4.2.2.1), Sg.c (fI d.c4.2.2.2.1), Sg.c (fI d.c8.1),
  Sg.c (fI d.c8.2.1), Sg.c (fI d.c8.2.2.1), Sg.c (fI d.c8.2.2.2.1), Sg.c (fI d.c8.c4.1),
  Sg.c (fI d.c8.c4.2.1)]), AV.r (RV.c (CV.ptr 0 (Off.k 0) 8)), AV.r (RV.c (CV.ptr 0 (Off.k 0) 8)), AV.r (RV.c (CV.ptr 0 (Off.k 1) 1)), AV.r (RV.c (CV.sl 1 (Off.k 0) (Sz.s d.2.1) 9 d.2.2.1)), AV.r (RV.c (fI d.1)),
  AV.r (RV.c (CV.ptr 1 (Off.x 0 d.c8.c4.2.2.1 9) 9)), AV.r (RV.agg [Sg.c (fI d.c8.c4.2.2.2.1), Sg.c (fI d.c16.1),
  Sg.c (fI d.c16.2.1), Sg.c (fI d.c16.2.2.1), Sg.c (fI d.c16.2.2.2.1),
  Sg.c (fI d.c16.c4.1), Sg.c (fI d.c16.c4.2.1), Sg.c (fI d.c16.c4.2.2.1),
  Sg.c (fI d.c16.c4.2.2.2.1)]), AV.r (RV.c (CV.f (FV.b d.c16.c8.1))), AV.r (RV.c (CV.f (FV.b d.c16.c8.2.1))),
  AV.r (RV.c (CV.f (FV.b d.c16.c8.2.1))), und, und, und, und, und, und, und, und, und, und, und, und, und, und, und, und, und, und, und, und, und,
  und, und, und, und, und, und, und, und, und, und, und, und, und, und, und, und, und, und, und, und, und, und, und, und, und, und, und, und, und, und, und, und, und, und, und, und, und, und,
  und, und, und, und] [some [Sg.c (fI d.c16.c8.2.2.1), Sg.c (CV.sl 1 (Off.k 0) (Sz.s d.2.1) 9 d.2.2.1), Sg.c (fI d.c16.c8.2.2.2.1),
  Sg.c (fI d.c16.c8.c4.1), Sg.c (fI d.c16.c8.c4.2.1),
  Sg.c (fI d.c16.c8.c4.2.2.1), Sg.c (fI d.c16.c8.c4.2.2.2.1),
  Sg.c (fI d.c16.c16.1)], some [Sg.a (Sz.s d.c16.c16.2.1) [kI d.c16.c16.2.2.1,
  kI d.c16.c16.2.2.2.1, kI d.c16.c16.c4.1,
  kI d.c16.c16.c4.2.1, kI d.c16.c16.c4.2.2.1,
  kI d.c16.c16.c4.2.2.2.1, kI d.c16.c16.c8.1,
  kI d.c16.c16.c8.2.1, kI d.c16.c16.c8.2.2]],
  some [Sg.c (fI d.c4.2.1), Sg.c (fI d.c4.2.2.1), Sg.c (fI d.c4.2.2.2.1), Sg.c (fI d.c8.1), Sg.c (fI d.c8.2.1),
  Sg.c (fI d.c8.2.2.1), Sg.c (fI d.c8.2.2.2.1), Sg.c (fI d.c8.c4.1), Sg.c (fI d.c8.c4.2.1)]] [0])) (fun d => K (AX.ex 0) (St.mk [AV.r (RV.c (CV.ptr 0 (Off.k 0) 8)),
  und, und, AV.r (RV.c (CV.ptr 2 (Off.k 0) 9)), und, AV.r (RV.c (fI d.1)), und, AV.tup [], und, und, und, und, und, und, und, und, und, und, und, und, und, und, und, und, und, und, und, und, und, und, und,
  und, und, AV.r (RV.c (fI d.1)), AV.r (RV.c (CV.ptr 0 (Off.k 0) 8)), AV.r (RV.c (CV.ptr 0 (Off.k 0) 8)), AV.r (RV.c (CV.ptr 0 (Off.k 1) 1)), AV.r (RV.c (CV.sl 1 (Off.k 0) (Sz.s d.2.1) 9 d.2.2.1)), AV.r (RV.c (fI d.2.2.2.1)), AV.r (RV.c (CV.f (FV.b d.c4.1))),
  AV.r (RV.c (CV.f (FV.b false))), AV.tup [], AV.tup [], AV.tup [], AV.tup [], AV.tup [], AV.tup [], AV.tup [], AV.tup [], AV.tup [], AV.tup [], AV.r (RV.c (CV.f (FV.b false))), und, und, und, und, und, und, und, und, und, und, und, und, und, und, und, und,
  und, und, und, und, und, und, und, und, und, und, und, und, und, und, und, und, und, und, und, und, und, und, und, und, und, und, und, und, und, und, und, und, und, und, und, und, und, und,
  und, und, und, und, und, und, und, und, und] [some [Sg.c (fI d.c4.2.1), Sg.c (CV.sl 1 (Off.k 0) (Sz.s d.2.1) 9 d.2.2.1), Sg.c (fI d.c4.2.2.1), Sg.c (fI d.c4.2.2.2.1),
  Sg.c (fI d.c8.1), Sg.c (fI d.c8.2.1), Sg.c (fI d.c8.2.2.1), Sg.c (fI d.c8.2.2.2.1)],
  some [Sg.a (Sz.s d.c8.c4.1) [kI d.c8.c4.2.1, kI d.c8.c4.2.2.1, kI d.c8.c4.2.2.2.1,
  kI d.c16.1, kI d.c16.2.1, kI d.c16.2.2.1, kI d.c16.2.2.2.1,
  kI d.c16.c4.1, kI d.c16.c4.2.1]], some [Sg.c (fI d.c16.c4.2.2.1),
  Sg.c (fI d.c16.c4.2.2.2.1), Sg.c (fI d.c16.c8.1), Sg.c (fI d.c16.c8.2.1),
  Sg.c (fI d.c16.c8.2.2.1), Sg.c (fI d.c16.c8.2.2.2.1), Sg.c (fI d.c16.c8.c4.1),
  Sg.c (fI d.c16.c8.c4.2.1), Sg.c (fI d.c16.c8.c4.2.2)]] [0])))) (fun d c => ds_astrolaberef13_Put_0 f_astrolaberef13_Less (@L_astrolaberef13_Put_0) d.1 d.2.1 d.2.2.1 d.2.2.2.1 d.c4.1 d.c4.2.1 d.c4.2.2.1 d.c4.2.2.2.1 d.c8.1 d.c8.2.1 d.c8.2.2.1 d.c8.2.2.2.1 d.c8.c4.1 d.c8.c4.2.1 d.c8.c4.2.2.1 d.c8.c4.2.2.2.1 d.c16.1 d.c16.2.1 d.c16.2.2.1 d.c16.2.2.2.1 d.c16.c4.1 d.c16.c4.2.1 d.c16.c4.2.2.1 d.c16.c4.2.2.2.1 d.c16.c8.1 d.c16.c8.2.1 d.c16.c8.2.2.1 d.c16.c8.2.2.2.1 d.c16.c8.c4 c K) 200 (x0,
  x1, x2, x3, x4, x5, x6, x7, x8, x9, x10, x11, x12, x13, x14, x15, x16, x17, x18, x19, x20, x21, x22, x23, x24, x25, x26, x27, x28)
theorem so_astrolaberef13_Put_0 [Amb] : ∀ kk, SumOK Try.prog (envOf [(28, F_astrolaberef13_Less f_astrolaberef13_Less)]) ⟨[⟨6, [1, 2, 4, 6, 8, 9, 10, 11, 12, 13, 14, 15, 16, 17, 18, 19, 20, 21, 22, 23, 24, 25, 26, 27, 28, 29, 30, 31, 32, 33, 34, 35, 36, 37, 38, 39, 40, 51, 52, 53, 54, 55, 56, 57,
  58, 59, 60, 61, 62, 63, 64, 65, 66, 67, 68, 69, 70, 71, 72, 73, 74, 75, 76, 77, 78, 79, 80, 81, 82, 83, 84, 85, 86, 87, 88, 89, 90, 91, 92, 93, 94, 95, 96, 97, 98, 99, 100, 101, 102, 103, 104, 105, 106, 107, 108, 109, 110, 111, 112, 113, 114, 41, 42, 43, 44, 45, 46, 47, 48, 49, 50], []⟩], [⟨6, 2, @R_astrolaberef13_Put_0 (@L_astrolaberef13_Put_0)⟩],
  [], [], (some ⟨0, [0, 1, 2, 3, 5, 6, 7, 8, 9, 10, 11, 12, 13, 14, 15, 16, 17, 18, 19, 20, 21, 22, 23, 24, 25, 26, 27, 28, 29, 30, 31, 32, 33, 34, 35, 36, 37, 38, 39, 40, 41, 42, 43, 44, 45, 46, 47, 48, 49, 50, 51, 52, 53, 54, 55, 56, 57, 58, 59, 60, 61, 62, 63, 64, 65, 66, 67, 68, 69, 70, 71, 72, 73,
  74, 75, 76, 77, 78, 79, 80, 81, 82, 83, 84, 85, 86, 87, 88, 89, 90, 91, 92, 93, 94, 95, 96, 97, 98, 99, 100, 101, 102, 103, 104, 105, 106, 107, 108, 109, 110, 111, 112, 113, 114], []⟩)⟩ (tmpsOf Try.prog 21) kk 200 (loopIn Try.prog 21 6) := SumOK.of (id := 6) (k0 := 2) (run := @R_astrolaberef13_Put_0 (@L_astrolaberef13_Put_0)) (by kernel_rfl) fun s K r hr => by
    unfold R_astrolaberef13_Put_0 at hr
    obtain ⟨b, hb, hr1⟩ := Option.bind_eq_some_iff.1 hr
    have e := ((Q_astrolaberef13_Put_0).ok s b hb).trans (q_astrolaberef13_Put_0 b)
    subst e
    exact ⟨200, (it_astrolaberef13_Put_0 b.1.c4.2.1 b.2.1.1.1 b.2.1.1.2.1.2.2.1 b.2.1.1.2.1.c4 b.2.1.1.2.2.1 b.2.1.1.2.2.2.1 b.2.1.1.c4.1 b.2.1.1.c4.2.1 b.2.1.1.c4.2.2.1 b.2.1.1.c4.2.2.2.1 b.2.1.2.1.1.1 b.2.1.2.1.1.2.1 b.2.1.2.1.1.2.2.1 b.2.1.2.1.1.2.2.2.1 b.2.1.2.1.1.c4.1 b.2.1.2.1.1.c4.2.1 b.2.1.2.1.1.c4.2.2.1 b.2.1.2.1.1.c4.2.2.2.1 b.2.1.2.1.1.c8.1 b.2.1.2.1.1.c8.2.1 b.2.1.2.2.1.1 b.2.1.2.2.1.2.1 b.2.1.2.2.1.2.2.1 b.2.1.2.2.1.2.2.2.1 b.2.1.2.2.1.c4.1 b.2.1.2.2.1.c4.2.1 b.2.1.2.2.1.c4.2.2.1 b.2.1.2.2.1.c4.2.2.2.1 b.2.1.2.2.1.c8.1 K).trans hr1⟩
def K_astrolaberef13_Put {ρ : Type} (g_astrolaberef13_Less : RG2g3) (l_0 : ∀ {ρ : Type}, (Int × Int × Nat × Bool × Int × Int × Int × Int × Int × Int × Nat × NI × NI × (Nat →
  Int) × RG2t4) → ((RG2t1 ⊕ RG2t2) → Option ρ) → Option ρ) (x0 : Int) (x1 : Int) (x2 : Int) (x3 : Int) (x4 : Int) (x5 : Int) (x6 : Int) (x7 : Int) (x8 : Int) (x9 : Int) (x10 : Nat) (x11 : Int) (x12 : Int) (x13 : Int) (x14 : Int) (x15 : Int) (x16 : Int) (x17 : Nat →
  Int) (x18 : Nat → Int) (x19 : Nat → Int) (x20 : Nat → Int) (x21 : Nat → Int) (x22 : Nat → Int) (x23 : Nat → Int) (x24 : Nat → Int) (x25 : Nat → Int) (w0 : Bool) (k : (RG2t5 ⊕ Bool × Int × Nat × Int × Int × Int × Int × Int × Int × Nat × NI × (Nat →
  Int) × NI × NI × NI × NI × NI × NI × NI ⊕ RG2t6) → Option ρ) : Option ρ := bif decide (x0 ≤ x11) then
  k (Sum.inl (x9, x10, w0, x11, IntKind.wrap IntKind.i64 (x12 + 1), IntKind.wrap IntKind.i64 (x13 + 1), x14, x15, x16)) else l_0 (0, x9, x10, w0, x11, IntKind.wrap IntKind.i64 (x12 + 1), x13, x14, x15, x16, x10, x17, x18, x19, x20, x21, x22, x23, x24, x25, x0, x1, x2, x3, x4, x5, x6, x7, x8) (Sum.elim (fun (d : Int ×
  Nat × Bool × Int × Bool × Int × Int × Int × Int × Int × Int × Int × Int × Int × Nat × Int × Int × Int × Int × Int × Int × Int × Int × Int × Bool × Bool × Int × Int × Int × Int × Int × Int × Int × Nat × NI × NI × NI × NI × NI × NI × NI × (Nat →
  Int) × NI) => bif inRe d.1 d.2.1 then bif Nat.ble ((0 + Int.toNat d.1) * 72) 140737488355328 then bif Nat.ble ((0 + Int.toNat d.1 + 1) * 72) 140737488355328 then bif inRe d.1 d.2.1 then bif Nat.ble ((0 + Int.toNat d.1 + 1 + (d.2.1 - Int.toNat d.1)) * 72) 140737488355328 then
  bif decide (Int.ofNat (0 + Int.toNat d.1 + 1 + (d.2.1 - Int.toNat d.1)) > d.c16.c8.2.2.1) then bif inR 0 (0 + Int.toNat d.1 + 1 + (d.2.1 - Int.toNat d.1)) then bif inRe 1 (0 + Int.toNat d.1 + 1 + (d.2.1 - Int.toNat d.1)) then
  k (Sum.inr (Sum.inl (!((bif Nat.beq 0 (0 + Int.toNat d.1) then d.c4.2.1 else d.c16.c16.2.2.1 0) == d.c4.2.1 && ((bif Nat.beq 0 (0 + Int.toNat d.1) then
  d.c4.2.2.1 else d.c16.c16.2.2.2.1 0) == d.c4.2.2.1 && ((bif Nat.beq 0 (0 + Int.toNat d.1) then d.c4.2.2.2.1 else
  d.c16.c16.c4.1 0) == d.c4.2.2.2.1 && ((bif Nat.beq 0 (0 + Int.toNat d.1) then d.c8.1 else d.c16.c16.c4.2.1 0) == d.c8.1 && ((bif Nat.beq 0 (0 + Int.toNat d.1) then
  d.c8.2.1 else d.c16.c16.c4.2.2.1 0) == d.c8.2.1 && ((bif Nat.beq 0 (0 + Int.toNat d.1) then d.c8.2.2.1 else
  d.c16.c16.c4.2.2.2.1 0) == d.c8.2.2.1 && ((bif Nat.beq 0 (0 + Int.toNat d.1) then d.c8.2.2.2.1 else
  d.c16.c16.c8.1 0) == d.c8.2.2.2.1 && ((bif Nat.beq 0 (0 + Int.toNat d.1) then d.c8.c4.1 else
  d.c16.c16.c8.2.1 0) == d.c8.c4.1 && ((bif Nat.beq 0 (0 + Int.toNat d.1) then d.c8.c4.2.1 else
  d.c16.c16.c8.2.2 0) == d.c8.c4.2.1 && true))))))) && true)), d.c16.c8.2.2.1,
  0 + Int.toNat d.1 + 1 + (d.2.1 - Int.toNat d.1) - 1, d.c16.c8.2.2.2.1, d.c16.c8.c4.1, d.c16.c8.c4.2.1,
  IntKind.wrap IntKind.i64 (d.c16.c8.c4.2.2.1 + 1), d.c16.c8.c4.2.2.2.1, d.c16.c16.1,
  0 + Int.toNat d.1 + 1 + (d.2.1 - Int.toNat d.1), fun (j : Nat) => bif Nat.blt j (0 + Int.toNat d.1 + 1) then bif Nat.beq j (0 + Int.toNat d.1) then d.c4.2.1 else d.c16.c16.2.2.1 j else
  d.c16.c16.2.2.1 (Int.toNat d.1 + (j - (0 + Int.toNat d.1 + 1))), fun (j : Nat) => bif Nat.blt j (0 + Int.toNat d.1 + 1) then bif Nat.beq j (0 + Int.toNat d.1) then d.c4.2.2.1 else
  d.c16.c16.2.2.2.1 j else d.c16.c16.2.2.2.1 (Int.toNat d.1 + (j - (0 + Int.toNat d.1 + 1))),
  fun (j : Nat) => bif Nat.blt j (0 + Int.toNat d.1 + 1) then bif Nat.beq j (0 + Int.toNat d.1) then d.c4.2.2.2.1 else d.c16.c16.c4.1 j else d.c16.c16.c4.1 (Int.toNat d.1 + (j - (0 + Int.toNat d.1 + 1))),
  fun (j : Nat) => bif Nat.blt j (0 + Int.toNat d.1 + 1) then bif Nat.beq j (0 + Int.toNat d.1) then d.c8.1 else d.c16.c16.c4.2.1 j else
  d.c16.c16.c4.2.1 (Int.toNat d.1 + (j - (0 + Int.toNat d.1 + 1))), fun (j : Nat) => bif Nat.blt j (0 + Int.toNat d.1 + 1) then bif Nat.beq j (0 + Int.toNat d.1) then
  d.c8.2.1 else d.c16.c16.c4.2.2.1 j else d.c16.c16.c4.2.2.1 (Int.toNat d.1 + (j - (0 + Int.toNat d.1 + 1))),
  fun (j : Nat) => bif Nat.blt j (0 + Int.toNat d.1 + 1) then bif Nat.beq j (0 + Int.toNat d.1) then d.c8.2.2.1 else d.c16.c16.c4.2.2.2.1 j else
  d.c16.c16.c4.2.2.2.1 (Int.toNat d.1 + (j - (0 + Int.toNat d.1 + 1))), fun (j : Nat) => bif Nat.blt j (0 + Int.toNat d.1 + 1) then bif Nat.beq j (0 + Int.toNat d.1) then
  d.c8.2.2.2.1 else d.c16.c16.c8.1 j else d.c16.c16.c8.1 (Int.toNat d.1 + (j - (0 + Int.toNat d.1 + 1))),
  fun (j : Nat) => bif Nat.blt j (0 + Int.toNat d.1 + 1) then bif Nat.beq j (0 + Int.toNat d.1) then d.c8.c4.1 else d.c16.c16.c8.2.1 j else
  d.c16.c16.c8.2.1 (Int.toNat d.1 + (j - (0 + Int.toNat d.1 + 1))), fun (j : Nat) => bif Nat.blt j (0 + Int.toNat d.1 + 1) then bif Nat.beq j (0 + Int.toNat d.1) then
  d.c8.c4.2.1 else d.c16.c16.c8.2.2 j else d.c16.c16.c8.2.2 (Int.toNat d.1 + (j - (0 + Int.toNat d.1 + 1)))))) else
  none else none else k (Sum.inr (Sum.inr (d.c16.c8.2.2.1, 0 + Int.toNat d.1 + 1 + (d.2.1 - Int.toNat d.1), d.c16.c8.2.2.2.1,
  d.c16.c8.c4.1, d.c16.c8.c4.2.1, d.c16.c8.c4.2.2.1,
  d.c16.c8.c4.2.2.2.1, d.c16.c16.1, fun (j : Nat) => bif Nat.blt j (0 + Int.toNat d.1 + 1) then
  bif Nat.beq j (0 + Int.toNat d.1) then d.c4.2.1 else d.c16.c16.2.2.1 j else d.c16.c16.2.2.1 (Int.toNat d.1 + (j - (0 + Int.toNat d.1 + 1))),
  fun (j : Nat) => bif Nat.blt j (0 + Int.toNat d.1 + 1) then bif Nat.beq j (0 + Int.toNat d.1) then d.c4.2.2.1 else d.c16.c16.2.2.2.1 j else d.c16.c16.2.2.2.1 (Int.toNat d.1 + (j - (0 + Int.toNat d.1 + 1))),
  fun (j : Nat) => bif Nat.blt j (0 + Int.toNat d.1 + 1) then bif Nat.beq j (0 + Int.toNat d.1) then d.c4.2.2.2.1 else d.c16.c16.c4.1 j else d.c16.c16.c4.1 (Int.toNat d.1 + (j - (0 + Int.toNat d.1 + 1))),
  fun (j : Nat) => bif Nat.blt j (0 + Int.toNat d.1 + 1) then bif Nat.beq j (0 + Int.toNat d.1) then d.c8.1 else d.c16.c16.c4.2.1 j else
  d.c16.c16.c4.2.1 (Int.toNat d.1 + (j - (0 + Int.toNat d.1 + 1))), fun (j : Nat) => bif Nat.blt j (0 + Int.toNat d.1 + 1) then bif Nat.beq j (0 + Int.toNat d.1) then
  d.c8.2.1 else d.c16.c16.c4.2.2.1 j else d.c16.c16.c4.2.2.1 (Int.toNat d.1 + (j - (0 + Int.toNat d.1 + 1))),
  fun (j : Nat) => bif Nat.blt j (0 + Int.toNat d.1 + 1) then bif Nat.beq j (0 + Int.toNat d.1) then d.c8.2.2.1 else d.c16.c16.c4.2.2.2.1 j else
  d.c16.c16.c4.2.2.2.1 (Int.toNat d.1 + (j - (0 + Int.toNat d.1 + 1))), fun (j : Nat) => bif Nat.blt j (0 + Int.toNat d.1 + 1) then bif Nat.beq j (0 + Int.toNat d.1) then
  d.c8.2.2.2.1 else d.c16.c16.c8.1 j else d.c16.c16.c8.1 (Int.toNat d.1 + (j - (0 + Int.toNat d.1 + 1))),
  fun (j : Nat) => bif Nat.blt j (0 + Int.toNat d.1 + 1) then bif Nat.beq j (0 + Int.toNat d.1) then d.c8.c4.1 else d.c16.c16.c8.2.1 j else
  d.c16.c16.c8.2.1 (Int.toNat d.1 + (j - (0 + Int.toNat d.1 + 1))), fun (j : Nat) => bif Nat.blt j (0 + Int.toNat d.1 + 1) then bif Nat.beq j (0 + Int.toNat d.1) then
  d.c8.c4.2.1 else d.c16.c16.c8.2.2 j else d.c16.c16.c8.2.2 (Int.toNat d.1 + (j - (0 + Int.toNat d.1 + 1)))))) else
  none else none else none else none else none) fun (d : RG2t2) => bif inRe d.1 d.2.1 then bif Nat.ble ((0 + Int.toNat d.1) * 72) 140737488355328 then bif Nat.ble ((0 + Int.toNat d.1 + 1) * 72) 140737488355328 then bif inRe d.1 d.2.1 then bif Nat.ble ((0 + Int.toNat d.1 + 1 + (d.2.1 - Int.toNat d.1)) * 72) 140737488355328 then bif decide (Int.ofNat (0 + Int.toNat d.1 + 1 + (d.2.1 - Int.toNat d.1)) > d.c4.2.1) then
  bif inR 0 (0 + Int.toNat d.1 + 1 + (d.2.1 - Int.toNat d.1)) then bif inRe 1 (0 + Int.toNat d.1 + 1 + (d.2.1 - Int.toNat d.1)) then k (Sum.inr (Sum.inl (!((bif Nat.beq 0 (0 + Int.toNat d.1) then d.c16.c4.2.2.1 else
  d.c8.c4.2.1 0) == d.c16.c4.2.2.1 && ((bif Nat.beq 0 (0 + Int.toNat d.1) then d.c16.c4.2.2.2.1 else
  d.c8.c4.2.2.1 0) == d.c16.c4.2.2.2.1 && ((bif Nat.beq 0 (0 + Int.toNat d.1) then d.c16.c8.1 else
  d.c8.c4.2.2.2.1 0) == d.c16.c8.1 && ((bif Nat.beq 0 (0 + Int.toNat d.1) then d.c16.c8.2.1 else
  d.c16.1 0) == d.c16.c8.2.1 && ((bif Nat.beq 0 (0 + Int.toNat d.1) then d.c16.c8.2.2.1 else
  d.c16.2.1 0) == d.c16.c8.2.2.1 && ((bif Nat.beq 0 (0 + Int.toNat d.1) then d.c16.c8.2.2.2.1 else
  d.c16.2.2.1 0) == d.c16.c8.2.2.2.1 && ((bif Nat.beq 0 (0 + Int.toNat d.1) then d.c16.c8.c4.1 else
  d.c16.2.2.2.1 0) == d.c16.c8.c4.1 && ((bif Nat.beq 0 (0 + Int.toNat d.1) then d.c16.c8.c4.2.1 else
  d.c16.c4.1 0) == d.c16.c8.c4.2.1 && ((bif Nat.beq 0 (0 + Int.toNat d.1) then d.c16.c8.c4.2.2 else
  d.c16.c4.2.1 0) == d.c16.c8.c4.2.2 && true))))))) && true)), d.c4.2.1, 0 + Int.toNat d.1 + 1 + (d.2.1 - Int.toNat d.1) - 1,
  d.c4.2.2.1, d.c4.2.2.2.1, d.c8.1, IntKind.wrap IntKind.i64 (d.c8.2.1 + 1), d.c8.2.2.1, d.c8.2.2.2.1, 0 + Int.toNat d.1 + 1 + (d.2.1 - Int.toNat d.1),
  fun (j : Nat) => bif Nat.blt j (0 + Int.toNat d.1 + 1) then bif Nat.beq j (0 + Int.toNat d.1) then d.c16.c4.2.2.1 else d.c8.c4.2.1 j else d.c8.c4.2.1 (Int.toNat d.1 + (j - (0 + Int.toNat d.1 + 1))),
  fun (j : Nat) => bif Nat.blt j (0 + Int.toNat d.1 + 1) then bif Nat.beq j (0 + Int.toNat d.1) then d.c16.c4.2.2.2.1 else d.c8.c4.2.2.1 j else d.c8.c4.2.2.1 (Int.toNat d.1 + (j - (0 + Int.toNat d.1 + 1))),
  fun (j : Nat) => bif Nat.blt j (0 + Int.toNat d.1 + 1) then bif Nat.beq j (0 + Int.toNat d.1) then d.c16.c8.1 else d.c8.c4.2.2.2.1 j else d.c8.c4.2.2.2.1 (Int.toNat d.1 + (j - (0 + Int.toNat d.1 + 1))),
  fun (j : Nat) => bif Nat.blt j (0 + Int.toNat d.1 + 1) then bif Nat.beq j (0 + Int.toNat d.1) then d.c16.c8.2.1 else d.c16.1 j else d.c16.1 (Int.toNat d.1 + (j - (0 + Int.toNat d.1 + 1))),
  fun (j : Nat) => bif Nat.blt j (0 + Int.toNat d.1 + 1) then bif Nat.beq j (0 + Int.toNat d.1) then d.c16.c8.2.2.1 else d.c16.2.1 j else d.c16.2.1 (Int.toNat d.1 + (j - (0 + Int.toNat d.1 + 1))),
  fun (j : Nat) => bif Nat.blt j (0 + Int.toNat d.1 + 1) then bif Nat.beq j (0 + Int.toNat d.1) then d.c16.c8.2.2.2.1 else d.c16.2.2.1 j else
  d.c16.2.2.1 (Int.toNat d.1 + (j - (0 + Int.toNat d.1 + 1))), fun (j : Nat) => bif Nat.blt j (0 + Int.toNat d.1 + 1) then bif Nat.beq j (0 + Int.toNat d.1) then d.c16.c8.c4.1 else
  d.c16.2.2.2.1 j else d.c16.2.2.2.1 (Int.toNat d.1 + (j - (0 + Int.toNat d.1 + 1))), fun (j : Nat) => bif Nat.blt j (0 + Int.toNat d.1 + 1) then bif Nat.beq j (0 + Int.toNat d.1) then
  d.c16.c8.c4.2.1 else d.c16.c4.1 j else d.c16.c4.1 (Int.toNat d.1 + (j - (0 + Int.toNat d.1 + 1))),
  fun (j : Nat) => bif Nat.blt j (0 + Int.toNat d.1 + 1) then bif Nat.beq j (0 + Int.toNat d.1) then d.c16.c8.c4.2.2 else d.c16.c4.2.1 j else
  d.c16.c4.2.1 (Int.toNat d.1 + (j - (0 + Int.toNat d.1 + 1)))))) else none else none else k (Sum.inr (Sum.inr (d.c4.2.1, 0 + Int.toNat d.1 + 1 + (d.2.1 - Int.toNat d.1), d.c4.2.2.1,
  d.c4.2.2.2.1, d.c8.1, d.c8.2.1, d.c8.2.2.1, d.c8.2.2.2.1, fun (j : Nat) => bif Nat.blt j (0 + Int.toNat d.1 + 1) then bif Nat.beq j (0 + Int.toNat d.1) then
  d.c16.c4.2.2.1 else d.c8.c4.2.1 j else d.c8.c4.2.1 (Int.toNat d.1 + (j - (0 + Int.toNat d.1 + 1))), fun (j : Nat) => bif Nat.blt j (0 + Int.toNat d.1 + 1) then
  bif Nat.beq j (0 + Int.toNat d.1) then d.c16.c4.2.2.2.1 else d.c8.c4.2.2.1 j else d.c8.c4.2.2.1 (Int.toNat d.1 + (j - (0 + Int.toNat d.1 + 1))),
  fun (j : Nat) => bif Nat.blt j (0 + Int.toNat d.1 + 1) then bif Nat.beq j (0 + Int.toNat d.1) then d.c16.c8.1 else d.c8.c4.2.2.2.1 j else d.c8.c4.2.2.2.1 (Int.toNat d.1 + (j - (0 + Int.toNat d.1 + 1))),
  fun (j : Nat) => bif Nat.blt j (0 + Int.toNat d.1 + 1) then bif Nat.beq j (0 + Int.toNat d.1) then d.c16.c8.2.1 else d.c16.1 j else d.c16.1 (Int.toNat d.1 + (j - (0 + Int.toNat d.1 + 1))),
  fun (j : Nat) => bif Nat.blt j (0 + Int.toNat d.1 + 1) then bif Nat.beq j (0 + Int.toNat d.1) then d.c16.c8.2.2.1 else d.c16.2.1 j else d.c16.2.1 (Int.toNat d.1 + (j - (0 + Int.toNat d.1 + 1))),
  fun (j : Nat) => bif Nat.blt j (0 + Int.toNat d.1 + 1) then bif Nat.beq j (0 + Int.toNat d.1) then d.c16.c8.2.2.2.1 else d.c16.2.2.1 j else
  d.c16.2.2.1 (Int.toNat d.1 + (j - (0 + Int.toNat d.1 + 1))), fun (j : Nat) => bif Nat.blt j (0 + Int.toNat d.1 + 1) then bif Nat.beq j (0 + Int.toNat d.1) then d.c16.c8.c4.1 else
  d.c16.2.2.2.1 j else d.c16.2.2.2.1 (Int.toNat d.1 + (j - (0 + Int.toNat d.1 + 1))), fun (j : Nat) => bif Nat.blt j (0 + Int.toNat d.1 + 1) then bif Nat.beq j (0 + Int.toNat d.1) then
  d.c16.c8.c4.2.1 else d.c16.c4.1 j else d.c16.c4.1 (Int.toNat d.1 + (j - (0 + Int.toNat d.1 + 1))),
  fun (j : Nat) => bif Nat.blt j (0 + Int.toNat d.1 + 1) then bif Nat.beq j (0 + Int.toNat d.1) then d.c16.c8.c4.2.2 else d.c16.c4.2.1 j else
  d.c16.c4.2.1 (Int.toNat d.1 + (j - (0 + Int.toNat d.1 + 1)))))) else none else none else none else none else none)
def f_astrolaberef13_Put (x0 : Int) (x1 : Int) (x2 : Int) (x3 : Int) (x4 : Int) (x5 : Int) (x6 : Int) (x7 : Int) (x8 : Int) (x9 : Int) (x10 : Nat) (x11 : Int) (x12 : Int) (x13 : Int) (x14 : Int) (x15 : Int) (x16 : Int) (x17 : Nat → Int) (x18 : Nat → Int) (x19 : Nat → Int) (x20 : Nat → Int) (x21 : Nat →
  Int) (x22 : Nat → Int) (x23 : Nat → Int) (x24 : Nat → Int) (x25 : Nat → Int) (w0 : Bool) : Option (RG2t5 ⊕ Bool × Int × Nat × Int × Int × Int × Int × Int × Int × Nat × NI × NI × NI × NI × NI × NI × (Nat →
  Int) × NI × NI ⊕ RG2t6) := K_astrolaberef13_Put f_astrolaberef13_Less (@L_astrolaberef13_Put_0) x0 x1 x2 x3 x4 x5 x6 x7 x8 x9 x10 x11 x12 x13 x14 x15 x16 x17 x18 x19 x20 x21 x22 x23 x24 x25 w0 some
section
open Go.Ab.Rdr
def QA_astrolaberef13_Put := ((pair (cons (ar (rc (cptr (nat 0) (ok' (nat 0)) (nat 8)))) (cons (ar (ra (cons (gc (cf (fi .i64 hole))) (cons (gc (cf (fi .i64 hole))) (cons (gc (cf (fi .i64 hole))) (cons (gc (cf (fi .i64 hole))) (cons (gc (cf (fi .i64 hole))) (cons (gc (cf (fi .i64 hole))) (cons (gc (cf (fi .i64 hole))) (cons (gc (cf (fi .i64 hole))) (cons (gc (cf (fi .i64 hole))) nil))))))))))) nil)) (cons (cons (gc (cf (fi .i64 hole))) (cons (gc (csl (nat 1) (ok' (nat 0)) (szs hole) (nat 9) hole)) (cons (gc (cf (fi .i64 hole))) (cons (gc (cf (fi .i64 hole))) (cons (gc (cf (fi .i64 hole))) (cons (gc (cf (fi .i64 hole))) (cons (gc (cf (fi .i64 hole))) (cons (gc (cf (fi .i64 hole))) nil)))))))) (cons (cons (ga (szs hole) (cons (ki .i64 hole) (cons (ki .i64 hole) (cons (ki .i64 hole) (cons (ki .i64 hole) (cons (ki .i64 hole) (cons (ki .i64 hole) (cons (ki .i64 hole) (cons (ki .i64 hole) (cons (ki .i64 hole) nil)))))))))) nil) nil))) : Rdr (List AV × List Blk) _)
end
def F_astrolaberef13_Put (f : (Int) → (Int) → (Int) → (Int) → (Int) → (Int) → (Int) → (Int) → (Int) → (Int) → (Nat) → (Int) → (Int) → (Int) → (Int) → (Int) → (Int) → NI → NI → NI → NI → NI → NI → NI → NI → NI → (Bool) → Option (RG2t5 ⊕
  RG2t7 ⊕
    RG2t6)) : Sem1 := fun args h => match (QA_astrolaberef13_Put).rd (args, h) with
  | some b => .test (Nat.beq b.2.2.1.1.1 b.2.1.2.1.2.2.1) (.opt (f b.1.2.1.1 b.1.2.1.2.1 b.1.2.1.2.2.1 b.1.2.1.2.2.2.1 b.1.2.1.c4.1 b.1.2.1.c4.2.1 b.1.2.1.c4.2.2.1 b.1.2.1.c4.2.2.2.1 b.1.2.1.c8.1 b.2.1.1 b.2.1.2.1.2.2.1 b.2.1.2.2.1 b.2.1.2.2.2.1 b.2.1.c4.1 b.2.1.c4.2.1 b.2.1.c4.2.2.1 b.2.1.c4.2.2.2.1 b.2.2.1.1.2.1 b.2.2.1.1.2.2.1 b.2.2.1.1.2.2.2.1 b.2.2.1.1.c4.1 b.2.2.1.1.c4.2.1 b.2.2.1.1.c4.2.2.1 b.2.2.1.1.c4.2.2.2.1 b.2.2.1.1.c8.1 b.2.2.1.1.c8.2.1 b.2.1.2.1.c4) fun d0 => T.sum d0 (fun (d : RG2t5) => .leaf (Res.mk (AV.r (RV.c (CV.f (FV.b false))))
    [Ch.set
        [Sg.c (fI d.1), Sg.c (CV.sl 1 (Off.k 0) (Sz.s d.2.1) 9 d.2.2.1), Sg.c (fI d.2.2.2.1),
          Sg.c (fI d.c4.1), Sg.c (fI d.c4.2.1), Sg.c (fI d.c4.2.2.1),
          Sg.c (fI d.c4.2.2.2.1), Sg.c (fI d.c8)],
      Ch.keep]
    [])) (fun d0 => T.sum d0 (fun (d : RG2t7) => .leaf (Res.mk (AV.r (RV.c (CV.f (FV.b d.1))))
    [Ch.set
        [Sg.c (fI d.2.1), Sg.c (CV.sl 2 (Off.x 0 1 9) (Sz.s d.2.2.1) 9 true), Sg.c (fI d.2.2.2.1),
          Sg.c (fI d.c4.1), Sg.c (fI d.c4.2.1), Sg.c (fI d.c4.2.2.1),
          Sg.c (fI d.c4.2.2.2.1), Sg.c (fI d.c8.1)],
      Ch.keep]
    [[Sg.a (Sz.s d.c8.2.1)
          [kI d.c8.2.2.1, kI d.c8.2.2.2.1,
            kI d.c8.c4.1, kI d.c8.c4.2.1,
            kI d.c8.c4.2.2.1, kI d.c8.c4.2.2.2.1,
            kI d.c16.1, kI d.c16.2.1,
            kI d.c16.2.2]]])) (fun (d : RG2t6) => .leaf (Res.mk (AV.r (RV.c (CV.f (FV.b true))))
    [Ch.set
        [Sg.c (fI d.1), Sg.c (CV.sl 2 (Off.k 0) (Sz.s d.2.1) 9 true), Sg.c (fI d.2.2.1), Sg.c (fI d.2.2.2.1),
          Sg.c (fI d.c4.1), Sg.c (fI d.c4.2.1), Sg.c (fI d.c4.2.2.1),
          Sg.c (fI d.c4.2.2.2.1)],
      Ch.keep]
    [[Sg.a (Sz.s d.2.1)
          [kI d.c8.1, kI d.c8.2.1, kI d.c8.2.2.1,
            kI d.c8.2.2.2.1, kI d.c8.c4.1,
            kI d.c8.c4.2.1, kI d.c8.c4.2.2.1,
            kI d.c8.c4.2.2.2.1, kI d.c16]]])))) .fail
  | none => .fail
theorem d_astrolaberef13_Put (g_astrolaberef13_Less : RG2g3) (l_0 : ∀ {ρ : Type}, (RG2t0) → ((RG2t1 ⊕ Int × Nat × Bool × Int × Bool × Int × Int × Int × Int × Int × Int × Int × Nat × NI × NI × NI × (Nat →
  Int) × RG2t8) → Option ρ) → Option ρ) (x0 : Int) (x1 : Int) (x2 : Int) (x3 : Int) (x4 : Int) (x5 : Int) (x6 : Int) (x7 : Int) (x8 : Int) (x9 : Int) (x10 : Nat) (x11 : Int) (x12 : Int) (x13 : Int) (x14 : Int) (x15 : Int) (x16 : Int) (x17 : Nat →
  Int) (x18 : Nat → Int) (x19 : Nat → Int) (x20 : Nat → Int) (x21 : Nat → Int) (x22 : Nat → Int) (x23 : Nat → Int) (x24 : Nat → Int) (x25 : Nat → Int) (w0 : Bool) : den Try.prog (envOf [(28, F_astrolaberef13_Less g_astrolaberef13_Less)]) ⟨[⟨6, [1, 2, 4, 6, 8, 9, 10, 11, 12, 13, 14, 15, 16, 17, 18,
  19, 20, 21, 22, 23, 24, 25, 26, 27, 28, 29, 30, 31, 32, 33, 34, 35, 36, 37, 38, 39, 40, 51, 52, 53, 54, 55, 56, 57, 58, 59, 60, 61, 62, 63, 64, 65, 66, 67, 68, 69, 70, 71, 72, 73, 74, 75, 76, 77, 78, 79, 80, 81, 82, 83, 84, 85, 86, 87, 88, 89, 90, 91, 92, 93, 94, 95, 96, 97, 98, 99, 100, 101, 102, 103,
  104, 105, 106, 107, 108, 109, 110, 111, 112, 113, 114, 41, 42, 43, 44, 45, 46, 47, 48, 49, 50], []⟩], [⟨6, 2, @R_astrolaberef13_Put_0 (@l_0)⟩], [], [], (some ⟨0, [0, 1, 2, 3, 5, 6, 7, 8, 9, 10, 11, 12, 13, 14, 15, 16, 17, 18, 19, 20, 21, 22, 23, 24, 25, 26, 27, 28, 29, 30, 31, 32, 33, 34, 35, 36, 37,
  38, 39, 40, 41, 42, 43, 44, 45, 46, 47, 48, 49, 50, 51, 52, 53, 54, 55, 56, 57, 58, 59, 60, 61, 62, 63, 64, 65, 66, 67, 68, 69, 70, 71, 72, 73, 74, 75, 76, 77, 78, 79, 80, 81, 82, 83, 84, 85, 86, 87, 88, 89, 90, 91, 92, 93, 94, 95, 96, 97, 98, 99, 100, 101, 102, 103, 104, 105, 106, 107, 108, 109, 110,
  111, 112, 113, 114], []⟩)⟩ 200 21 [.r (.c (.ptr 0 (.k 0) 8)), .r (.agg [.c (.f (.i .i64 x0)), .c (.f (.i .i64 x1)), .c (.f (.i .i64 x2)), .c (.f (.i .i64 x3)), .c (.f (.i .i64 x4)), .c (.f (.i .i64 x5)), .c (.f (.i .i64 x6)), .c (.f (.i .i64 x7)), .c (.f (.i .i64 x8))])] [[.c (.f (.i .i64 x9)),
  .c (.sl 1 (.k 0) (.s x10) 9 w0), .c (.f (.i .i64 x11)), .c (.f (.i .i64 x12)), .c (.f (.i .i64 x13)), .c (.f (.i .i64 x14)), .c (.f (.i .i64 x15)), .c (.f (.i .i64 x16))], [.a (.s x10) [.i .i64 x17, .i .i64 x18, .i .i64 x19, .i .i64 x20, .i .i64 x21, .i .i64 x22, .i .i64 x23, .i .i64 x24, .i .i64 x25]]] = K_astrolaberef13_Put g_astrolaberef13_Less (@l_0) x0 x1 x2 x3 x4 x5 x6 x7 x8 x9 x10 x11 x12 x13 x14 x15 x16 x17 x18 x19 x20 x21 x22 x23 x24 x25 w0 ((Sum.elim (fun (d : RG2t5) => some (Res.mk (AV.r (RV.c (CV.f (FV.b false)))) [Ch.set [Sg.c (fI d.1), Sg.c (CV.sl 1 (Off.k 0) (Sz.s d.2.1) 9 d.2.2.1), Sg.c (fI d.2.2.2.1), Sg.c (fI d.c4.1),
  Sg.c (fI d.c4.2.1), Sg.c (fI d.c4.2.2.1), Sg.c (fI d.c4.2.2.2.1), Sg.c (fI d.c8)], Ch.keep] [])) (Sum.elim (fun (d : RG2t7) => some (Res.mk (AV.r (RV.c (CV.f (FV.b d.1)))) [Ch.set [Sg.c (fI d.2.1), Sg.c (CV.sl 2 (Off.x 0 1 9) (Sz.s d.2.2.1) 9 true),
  Sg.c (fI d.2.2.2.1), Sg.c (fI d.c4.1), Sg.c (fI d.c4.2.1), Sg.c (fI d.c4.2.2.1), Sg.c (fI d.c4.2.2.2.1), Sg.c (fI d.c8.1)],
  Ch.keep] [[Sg.a (Sz.s d.c8.2.1) [kI d.c8.2.2.1, kI d.c8.2.2.2.1, kI d.c8.c4.1, kI d.c8.c4.2.1,
  kI d.c8.c4.2.2.1, kI d.c8.c4.2.2.2.1, kI d.c16.1, kI d.c16.2.1,
  kI d.c16.2.2]]])) (fun (d : RG2t6) => some (Res.mk (AV.r (RV.c (CV.f (FV.b true)))) [Ch.set [Sg.c (fI d.1),
  Sg.c (CV.sl 2 (Off.k 0) (Sz.s d.2.1) 9 true), Sg.c (fI d.2.2.1), Sg.c (fI d.2.2.2.1), Sg.c (fI d.c4.1), Sg.c (fI d.c4.2.1), Sg.c (fI d.c4.2.2.1),
  Sg.c (fI d.c4.2.2.2.1)], Ch.keep] [[Sg.a (Sz.s d.2.1) [kI d.c8.1, kI d.c8.2.1, kI d.c8.2.2.1, kI d.c8.2.2.2.1,
  kI d.c8.c4.1, kI d.c8.c4.2.1, kI d.c8.c4.2.2.1, kI d.c8.c4.2.2.2.1,
  kI d.c16]]]))))) := by kernel_rfl
theorem m_astrolaberef13_Put {ρ σ : Type} (q : ρ → Option σ) (g_astrolaberef13_Less : RG2g3) (l_0 : ∀ {ρ : Type}, (Int × Int × Nat × Bool × Int × Int × Int × Int × Int × Int × Nat × (Nat →
  Int) × RG2t9) → ((RG2t1 ⊕ Int × Nat × Bool × Int × Bool × Int × Int × Int × Int × Int × Int × Int × Nat × NI × (Nat →
  Int) × RG2t10) → Option ρ) → Option ρ) (hl_0 : ∀ {ρ σ : Type} (q : ρ → Option σ) (d : Int × Int × Nat × Bool × Int × Int × Int × Int × Int × Int × Nat × (Nat →
  Int) × RG2t9) (k : (RG2t1 ⊕ Int × Nat × Bool × Int × Bool × Int × Int × Int × Int × Int × Int × Int × Nat × NI × (Nat →
  Int) × RG2t10) → Option ρ), (l_0 d k).bind q = l_0 d fun x => (k x).bind q) (x0 : Int) (x1 : Int) (x2 : Int) (x3 : Int) (x4 : Int) (x5 : Int) (x6 : Int) (x7 : Int) (x8 : Int) (x9 : Int) (x10 : Nat) (x11 : Int) (x12 : Int) (x13 : Int) (x14 : Int) (x15 : Int) (x16 : Int) (x17 : Nat →
  Int) (x18 : Nat → Int) (x19 : Nat → Int) (x20 : Nat → Int) (x21 : Nat → Int) (x22 : Nat → Int) (x23 : Nat → Int) (x24 : Nat → Int) (x25 : Nat → Int) (w0 : Bool) (k : (RG2t5 ⊕ Bool × Int × Nat × Int × Int × Int × Int × Int × Int × Nat × NI × (Nat →
  Int) × NI × NI × NI × NI × NI × NI × NI ⊕ RG2t6) → Option ρ) : (K_astrolaberef13_Put g_astrolaberef13_Less (@l_0) x0 x1 x2 x3 x4 x5 x6 x7 x8 x9 x10 x11 x12 x13 x14 x15 x16 x17 x18 x19 x20 x21 x22 x23 x24 x25 w0 k).bind q = K_astrolaberef13_Put g_astrolaberef13_Less (@l_0) x0 x1 x2 x3 x4 x5 x6 x7 x8 x9 x10 x11 x12 x13 x14 x15 x16 x17 x18 x19 x20 x21 x22 x23 x24 x25 w0 (fun d => (k d).bind q) := by
  simp only [K_astrolaberef13_Put, bnd_cond, bnd_bind, bnd_none, bnd_sum, hl_0]
theorem qa_astrolaberef13_Put : ∀ b, (QA_astrolaberef13_Put).em b = ([.r (.c (.ptr 0 (.k 0) 8)), .r (.agg [.c (.f (.i .i64 b.1.2.1.1)), .c (.f (.i .i64 b.1.2.1.2.1)), .c (.f (.i .i64 b.1.2.1.2.2.1)), .c (.f (.i .i64 b.1.2.1.2.2.2.1)), .c (.f (.i .i64 b.1.2.1.c4.1)), .c (.f (.i .i64 b.1.2.1.c4.2.1)), .c (.f (.i .i64 b.1.2.1.c4.2.2.1)), .c (.f (.i .i64 b.1.2.1.c4.2.2.2.1)), .c (.f (.i .i64 b.1.2.1.c8.1))])], [[.c (.f (.i .i64 b.2.1.1)), .c (.sl 1 (.k 0) (.s b.2.1.2.1.2.2.1) 9 b.2.1.2.1.c4), .c (.f (.i .i64 b.2.1.2.2.1)), .c (.f (.i .i64 b.2.1.2.2.2.1)), .c (.f (.i .i64 b.2.1.c4.1)), .c (.f (.i .i64 b.2.1.c4.2.1)), .c (.f (.i .i64 b.2.1.c4.2.2.1)), .c (.f (.i .i64 b.2.1.c4.2.2.2.1))], [.a (.s b.2.2.1.1.1) [.i .i64 b.2.2.1.1.2.1, .i .i64 b.2.2.1.1.2.2.1, .i .i64 b.2.2.1.1.2.2.2.1, .i .i64 b.2.2.1.1.c4.1, .i .i64 b.2.2.1.1.c4.2.1, .i .i64 b.2.2.1.1.c4.2.2.1, .i .i64 b.2.2.1.1.c4.2.2.2.1, .i .i64 b.2.2.1.1.c8.1, .i .i64 b.2.2.1.1.c8.2.1]]]) := fun b => by kernel_rfl
theorem e_astrolaberef13_Put {f : (Int) → (Int) → (Int) → (Int) → (Int) → (Int) → (Int) → (Int) → (Int) → (Int) → (Nat) → (Int) → (Int) → (Int) → (Int) → (Int) → (Int) → NI → NI → NI → NI → NI → NI → NI → NI → NI → (Bool) →
  Option (RG2t5 ⊕ RG2t7 ⊕ Int × Nat × Int × Int × Int × Int × Int × Int × (Nat →
  Int) × RG2t11)} {args : List AV} {h : List Blk} {r : Res} (hr : (F_astrolaberef13_Put f args h).eval = some r) : ∃ x0 x1 x2 x3 x4 x5 x6 x7 x8 x9 x10 x11 x12 x13 x14 x15 x16 x17 x18 x19 x20 x21 x22 x23 x24 x25 w0,
  args = [.r (.c (.ptr 0 (.k 0) 8)), .r (.agg [.c (.f (.i .i64 x0)), .c (.f (.i .i64 x1)), .c (.f (.i .i64 x2)), .c (.f (.i .i64 x3)), .c (.f (.i .i64 x4)), .c (.f (.i .i64 x5)), .c (.f (.i .i64 x6)), .c (.f (.i .i64 x7)), .c (.f (.i .i64 x8))])] ∧ h = [[.c (.f (.i .i64 x9)), .c (.sl 1 (.k 0) (.s x10) 9 w0),
  .c (.f (.i .i64 x11)), .c (.f (.i .i64 x12)), .c (.f (.i .i64 x13)), .c (.f (.i .i64 x14)), .c (.f (.i .i64 x15)), .c (.f (.i .i64 x16))], [.a (.s x10) [.i .i64 x17, .i .i64 x18, .i .i64 x19, .i .i64 x20, .i .i64 x21, .i .i64 x22, .i .i64 x23, .i .i64 x24, .i .i64 x25]]] ∧ (f x0 x1 x2 x3 x4 x5 x6 x7 x8 x9 x10 x11 x12 x13 x14 x15 x16 x17 x18 x19 x20 x21 x22 x23 x24 x25 w0).bind ((Sum.elim (fun (d : RG2t5) => some (Res.mk (AV.r (RV.c (CV.f (FV.b false)))) [Ch.set [Sg.c (fI d.1), Sg.c (CV.sl 1 (Off.k 0) (Sz.s d.2.1) 9 d.2.2.1), Sg.c (fI d.2.2.2.1), Sg.c (fI d.c4.1),
  Sg.c (fI d.c4.2.1), Sg.c (fI d.c4.2.2.1), Sg.c (fI d.c4.2.2.2.1), Sg.c (fI d.c8)], Ch.keep] [])) (Sum.elim (fun (d : RG2t7) => some (Res.mk (AV.r (RV.c (CV.f (FV.b d.1)))) [Ch.set [Sg.c (fI d.2.1), Sg.c (CV.sl 2 (Off.x 0 1 9) (Sz.s d.2.2.1) 9 true),
  Sg.c (fI d.2.2.2.1), Sg.c (fI d.c4.1), Sg.c (fI d.c4.2.1), Sg.c (fI d.c4.2.2.1), Sg.c (fI d.c4.2.2.2.1), Sg.c (fI d.c8.1)],
  Ch.keep] [[Sg.a (Sz.s d.c8.2.1) [kI d.c8.2.2.1, kI d.c8.2.2.2.1, kI d.c8.c4.1, kI d.c8.c4.2.1,
  kI d.c8.c4.2.2.1, kI d.c8.c4.2.2.2.1, kI d.c16.1, kI d.c16.2.1,
  kI d.c16.2.2]]])) (fun (d : RG2t6) => some (Res.mk (AV.r (RV.c (CV.f (FV.b true)))) [Ch.set [Sg.c (fI d.1),
  Sg.c (CV.sl 2 (Off.k 0) (Sz.s d.2.1) 9 true), Sg.c (fI d.2.2.1), Sg.c (fI d.2.2.2.1), Sg.c (fI d.c4.1), Sg.c (fI d.c4.2.1), Sg.c (fI d.c4.2.2.1),
  Sg.c (fI d.c4.2.2.2.1)], Ch.keep] [[Sg.a (Sz.s d.2.1) [kI d.c8.1, kI d.c8.2.1, kI d.c8.2.2.1, kI d.c8.2.2.2.1,
  kI d.c8.c4.1, kI d.c8.c4.2.1, kI d.c8.c4.2.2.1, kI d.c8.c4.2.2.2.1,
  kI d.c16]]]))))) = some r := by
  unfold F_astrolaberef13_Put at hr
  split at hr
  · rename_i b hb
    have e := ((QA_astrolaberef13_Put).ok _ _ hb).trans (qa_astrolaberef13_Put b)
    obtain ⟨he, hr1⟩ := test_eval hr
    clear hr
    have hr := hr1
    clear hr1
    rw [Nat.eq_of_beq_eq_true he] at e
    clear he
    rw [opt_eval2] at hr
    simp only [sum_eval, leaf_eval] at hr
    exact ⟨b.1.2.1.1, b.1.2.1.2.1, b.1.2.1.2.2.1, b.1.2.1.2.2.2.1, b.1.2.1.c4.1, b.1.2.1.c4.2.1, b.1.2.1.c4.2.2.1, b.1.2.1.c4.2.2.2.1, b.1.2.1.c8.1, b.2.1.1, b.2.1.2.1.2.2.1, b.2.1.2.2.1, b.2.1.2.2.2.1, b.2.1.c4.1, b.2.1.c4.2.1, b.2.1.c4.2.2.1, b.2.1.c4.2.2.2.1, b.2.2.1.1.2.1, b.2.2.1.1.2.2.1, b.2.2.1.1.2.2.2.1, b.2.2.1.1.c4.1, b.2.2.1.1.c4.2.1, b.2.2.1.1.c4.2.2.1, b.2.2.1.1.c4.2.2.2.1, b.2.2.1.1.c8.1, b.2.2.1.1.c8.2.1, b.2.1.2.1.c4, (Prod.mk.inj e).1, (Prod.mk.inj e).2, hr⟩
  · cases hr
theorem n_astrolaberef13_Put {σ : Type} (q : (RG2t5 ⊕ RG2t7 ⊕ RG2t6) → Option σ) (x0 : Int) (x1 : Int) (x2 : Int) (x3 : Int) (x4 : Int) (x5 : Int) (x6 : Int) (x7 : Int) (x8 : Int) (x9 : Int) (x10 : Nat) (x11 : Int) (x12 : Int) (x13 : Int) (x14 : Int) (x15 : Int) (x16 : Int) (x17 : Nat →
  Int) (x18 : Nat → Int) (x19 : Nat → Int) (x20 : Nat → Int) (x21 : Nat → Int) (x22 : Nat → Int) (x23 : Nat → Int) (x24 : Nat → Int) (x25 : Nat → Int) (w0 : Bool) : (f_astrolaberef13_Put x0 x1 x2 x3 x4 x5 x6 x7 x8 x9 x10 x11 x12 x13 x14 x15 x16 x17 x18 x19 x20 x21 x22 x23 x24 x25 w0).bind q = K_astrolaberef13_Put f_astrolaberef13_Less (@L_astrolaberef13_Put_0) x0 x1 x2 x3 x4 x5 x6 x7 x8 x9 x10 x11 x12 x13 x14 x15 x16 x17 x18 x19 x20 x21 x22 x23 x24 x25 w0 q := by
  unfold f_astrolaberef13_Put
  exact m_astrolaberef13_Put q f_astrolaberef13_Less (@L_astrolaberef13_Put_0) (fun q d k => mL_astrolaberef13_Put_0 q d k) x0 x1 x2 x3 x4 x5 x6 x7 x8 x9 x10 x11 x12 x13 x14 x15 x16 x17 x18 x19 x20 x21 x22 x23 x24 x25 w0 some
theorem s_astrolaberef13_Put [Amb] : Sound Try.prog 21 (F_astrolaberef13_Put f_astrolaberef13_Put) := (inl_sums (l := [(28, F_astrolaberef13_Less f_astrolaberef13_Less)]) (.cons s_astrolaberef13_Less (.nil _)) mixed (hs := ⟨[⟨6, [1, 2, 4, 6, 8, 9, 10, 11, 12, 13, 14, 15, 16, 17, 18, 19, 20,
  21, 22, 23, 24, 25, 26, 27, 28, 29, 30, 31, 32, 33, 34, 35, 36, 37, 38, 39, 40, 51, 52, 53, 54, 55, 56, 57, 58, 59, 60, 61, 62, 63, 64, 65, 66, 67, 68, 69, 70, 71, 72, 73, 74, 75, 76, 77, 78, 79, 80, 81, 82, 83, 84, 85, 86, 87, 88, 89, 90, 91, 92, 93, 94, 95, 96, 97, 98, 99, 100, 101, 102, 103, 104,
  105, 106, 107, 108, 109, 110, 111, 112, 113, 114, 41, 42, 43, 44, 45, 46, 47, 48, 49, 50], []⟩], [⟨6, 2, @R_astrolaberef13_Put_0 (@L_astrolaberef13_Put_0)⟩], [], [], (some ⟨0, [0, 1, 2, 3, 5, 6, 7, 8, 9, 10, 11, 12, 13, 14, 15, 16, 17, 18, 19, 20, 21, 22, 23, 24, 25, 26, 27, 28, 29, 30, 31, 32, 33, 34,
  35, 36, 37, 38, 39, 40, 41, 42, 43, 44, 45, 46, 47, 48, 49, 50, 51, 52, 53, 54, 55, 56, 57, 58, 59, 60, 61, 62, 63, 64, 65, 66, 67, 68, 69, 70, 71, 72, 73, 74, 75, 76, 77, 78, 79, 80, 81, 82, 83, 84, 85, 86, 87, 88, 89, 90, 91, 92, 93, 94, 95, 96, 97, 98, 99, 100, 101, 102, 103, 104, 105, 106, 107, 108,
  109, 110, 111, 112, 113, 114], []⟩)⟩) (lf := 200) (Sums.by (l := [loopIn Try.prog 21 6]) (lj := []) (by kernel_rfl) ⟨so_astrolaberef13_Put_0, trivial⟩ (by kernel_rfl) trivial) (by kernel_rfl)).by (F := F_astrolaberef13_Put f_astrolaberef13_Put) fun args b r hr => by
  obtain ⟨x0, x1, x2, x3, x4, x5, x6, x7, x8, x9, x10, x11, x12, x13, x14, x15, x16, x17, x18, x19, x20, x21, x22, x23, x24, x25, w0, rfl, rfl, hr1⟩ := e_astrolaberef13_Put hr
  exact inl_eval ((d_astrolaberef13_Put f_astrolaberef13_Less (@L_astrolaberef13_Put_0) x0 x1 x2 x3 x4 x5 x6 x7 x8 x9 x10 x11 x12 x13 x14 x15 x16 x17 x18 x19 x20 x21 x22 x23 x24 x25 w0).trans ((n_astrolaberef13_Put ((Sum.elim (fun (d : RG2t5) => some (Res.mk (AV.r (RV.c (CV.f (FV.b false))))
    [Ch.set
        [Sg.c (fI d.1), Sg.c (CV.sl 1 (Off.k 0) (Sz.s d.2.1) 9 d.2.2.1), Sg.c (fI d.2.2.2.1),
          Sg.c (fI d.c4.1), Sg.c (fI d.c4.2.1), Sg.c (fI d.c4.2.2.1),
          Sg.c (fI d.c4.2.2.2.1), Sg.c (fI d.c8)],
      Ch.keep]
    [])) (Sum.elim (fun (d : RG2t7) => some (Res.mk (AV.r (RV.c (CV.f (FV.b d.1))))
    [Ch.set
        [Sg.c (fI d.2.1), Sg.c (CV.sl 2 (Off.x 0 1 9) (Sz.s d.2.2.1) 9 true), Sg.c (fI d.2.2.2.1),
          Sg.c (fI d.c4.1), Sg.c (fI d.c4.2.1), Sg.c (fI d.c4.2.2.1),
          Sg.c (fI d.c4.2.2.2.1), Sg.c (fI d.c8.1)],
      Ch.keep]
    [[Sg.a (Sz.s d.c8.2.1)
          [kI d.c8.2.2.1, kI d.c8.2.2.2.1,
            kI d.c8.c4.1, kI d.c8.c4.2.1,
            kI d.c8.c4.2.2.1, kI d.c8.c4.2.2.2.1,
            kI d.c16.1, kI d.c16.2.1,
            kI d.c16.2.2]]])) (fun (d : RG2t6) => some (Res.mk (AV.r (RV.c (CV.f (FV.b true))))
    [Ch.set
        [Sg.c (fI d.1), Sg.c (CV.sl 2 (Off.k 0) (Sz.s d.2.1) 9 true), Sg.c (fI d.2.2.1), Sg.c (fI d.2.2.2.1),
          Sg.c (fI d.c4.1), Sg.c (fI d.c4.2.1), Sg.c (fI d.c4.2.2.1),
          Sg.c (fI d.c4.2.2.2.1)],
      Ch.keep]
    [[Sg.a (Sz.s d.2.1)
          [kI d.c8.1, kI d.c8.2.1, kI d.c8.2.2.1,
            kI d.c8.2.2.2.1, kI d.c8.c4.1,
            kI d.c8.c4.2.1, kI d.c8.c4.2.2.1,
            kI d.c8.c4.2.2.2.1, kI d.c16]]]))))) x0 x1 x2 x3 x4 x5 x6 x7 x8 x9 x10 x11 x12 x13 x14 x15 x16 x17 x18 x19 x20 x21 x22 x23 x24 x25 w0).symm.trans hr1))

end Go.Proofs.Ythbnojedlbeglaa
