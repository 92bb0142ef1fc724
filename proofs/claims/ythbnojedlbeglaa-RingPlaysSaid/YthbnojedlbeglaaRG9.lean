/-
  Contracts by plain functions: astrolaberef13.Spoilt, astrolaberef13.Pop
-/
import Derived.Test.YthbnojedlbeglaaRG2
set_option maxRecDepth 100000
set_option maxHeartbeats 4000000
set_option linter.unusedVariables false
namespace Go.Proofs.Ythbnojedlbeglaa
open Go.Ab
abbrev RG9t0 := Int × Nat × Bool × Int × Int × Int × Int × Int × Int
abbrev RG9t1 := NI × NI × NI × NI × NI × NI × NI × NI × Nat × NI × NI × NI × NI × NI × NI × NI × NI × NI
abbrev RG9t2 := Int × Nat × Nat × Nat × Bool × Int × Bool × Int × Int × Int × Int × Int × Int × Int × Nat × NI × NI × NI × NI × NI × NI × NI × NI × NI × Nat × NI × NI × NI × NI × NI × NI × NI × NI × NI
abbrev RG9t3 := Nat × NI × NI × NI × NI × NI × NI × NI × NI × NI
abbrev RG9t4 := Int × Nat × Int × Nat × Nat × Bool × Int × Int × Int × Int × Int × Int × Nat × NI × NI × NI × NI × NI × NI × NI × NI × NI × Nat × NI × NI × NI × NI × NI × NI × NI × NI × NI
abbrev RG9t5 := Int × Nat × Nat × Nat × Bool × Int × Bool × Int × Bool × Int × Int × Int × Int × Int × Int × Int × Nat × NI × NI × NI × NI × NI × NI × NI × NI × NI × Nat × NI × NI × NI × NI × NI × NI × NI × NI × NI
abbrev RG9t6 := NI × NI × Nat × NI × NI × NI × NI × NI × NI × NI × NI × NI
abbrev RG9t7 := NI × NI × NI × NI × NI × Nat × NI × NI × NI × NI × NI × NI × NI × NI × NI
abbrev RG9t8 := NI × Nat × NI × NI × NI × NI × NI × NI × NI × NI × NI
abbrev RG9t9 := NI × NI × NI × NI × Nat × NI × NI × NI × NI × NI × NI × NI × NI × NI
abbrev RG9t10 := Nat × Int × Nat × Nat × Bool × Int × Int × Int × Int × Int × Int × Nat × NI × NI × NI × NI × NI × NI × NI × NI × NI
abbrev RG9t11 := NI × NI × NI × NI × NI × NI × NI × NI
abbrev RG9t12 := NI × NI × NI × Nat × NI × NI × NI × NI × NI × NI × NI × NI × NI
def K_astrolaberef13_Spoilt {ρ : Type} (x0 : Int) (x1 : Nat) (x2 : Int) (x3 : Int) (x4 : Int) (x5 : Int) (x6 : Int) (x7 : Int) (x8 : Nat → Int) (x9 : Nat → Int) (x10 : Nat → Int) (x11 : Nat → Int) (x12 : Nat → Int) (x13 : Nat → Int) (x14 : Nat → Int) (x15 : Nat → Int) (x16 : Nat → Int) (w0 : Bool) (k : (RG9t0) → Option ρ) : Option ρ := k (x0, x1, w0, x2, IntKind.wrap IntKind.i64 (x3 + 1), x4, x5, IntKind.wrap IntKind.i64 (x6 + 1), x7)
def f_astrolaberef13_Spoilt (x0 : Int) (x1 : Nat) (x2 : Int) (x3 : Int) (x4 : Int) (x5 : Int) (x6 : Int) (x7 : Int) (x8 : Nat → Int) (x9 : Nat → Int) (x10 : Nat → Int) (x11 : Nat → Int) (x12 : Nat → Int) (x13 : Nat → Int) (x14 : Nat → Int) (x15 : Nat → Int) (x16 : Nat → Int) (w0 : Bool) : Option (RG9t0) := K_astrolaberef13_Spoilt   x0 x1 x2 x3 x4 x5 x6 x7 x8 x9 x10 x11 x12 x13 x14 x15 x16 w0 some
section
open Go.Ab.Rdr
def QA_astrolaberef13_Spoilt := ((pair (cons (ar (rc (cptr (nat 0) (ok' (nat 0)) (nat 8)))) nil) (cons (cons (gc (cf (fi .i64 hole))) (cons (gc (csl (nat 1) (ok' (nat 0)) (szs hole) (nat 9) hole)) (cons (gc (cf (fi .i64 hole))) (cons (gc (cf (fi .i64 hole))) (cons (gc (cf (fi .i64 hole))) (cons (gc (cf (fi .i64 hole))) (cons (gc (cf (fi .i64 hole))) (cons (gc (cf (fi .i64 hole))) nil)))))))) (cons (cons (ga (szs hole) (cons (ki .i64 hole) (cons (ki .i64 hole) (cons (ki .i64 hole) (cons (ki .i64 hole) (cons (ki .i64 hole) (cons (ki .i64 hole) (cons (ki .i64 hole) (cons (ki .i64 hole) (cons (ki .i64 hole) nil)))))))))) nil) nil))) : Rdr (List AV × List Blk) _)
end
def F_astrolaberef13_Spoilt (f : (Int) → (Nat) → (Int) → (Int) → (Int) → (Int) → (Int) → (Int) → NI → NI → NI → NI → NI → NI → NI → NI → NI → (Bool) → Option (RG9t0)) : Sem1 := fun args h => match (QA_astrolaberef13_Spoilt).rd (args, h) with
  | some b => .test (Nat.beq b.2.2.1.1.1 b.2.1.2.1.2.2.1) (.opt (f b.2.1.1 b.2.1.2.1.2.2.1 b.2.1.2.2.1 b.2.1.2.2.2.1 b.2.1.c4.1 b.2.1.c4.2.1 b.2.1.c4.2.2.1 b.2.1.c4.2.2.2.1 b.2.2.1.1.2.1 b.2.2.1.1.2.2.1 b.2.2.1.1.2.2.2.1 b.2.2.1.1.c4.1 b.2.2.1.1.c4.2.1 b.2.2.1.1.c4.2.2.1 b.2.2.1.1.c4.2.2.2.1 b.2.2.1.1.c8.1 b.2.2.1.1.c8.2.1 b.2.1.2.1.c4) fun (d : RG9t0) => .leaf (Res.mk (AV.tup [])
    [Ch.set
        [Sg.c (fI d.1), Sg.c (CV.sl 1 (Off.k 0) (Sz.s d.2.1) 9 d.2.2.1), Sg.c (fI d.2.2.2.1),
          Sg.c (fI d.c4.1), Sg.c (fI d.c4.2.1), Sg.c (fI d.c4.2.2.1),
          Sg.c (fI d.c4.2.2.2.1), Sg.c (fI d.c8)],
      Ch.keep]
    [])) .fail
  | none => .fail
theorem d_astrolaberef13_Spoilt (x0 : Int) (x1 : Nat) (x2 : Int) (x3 : Int) (x4 : Int) (x5 : Int) (x6 : Int) (x7 : Int) (x8 : Nat → Int) (x9 : Nat → Int) (x10 : Nat → Int) (x11 : Nat → Int) (x12 : Nat → Int) (x13 : Nat → Int) (x14 : Nat → Int) (x15 : Nat → Int) (x16 : Nat → Int) (w0 : Bool) : den Try.prog (envOf []) ⟨[],
  [], [], [], none⟩ 200 25 [.r (.c (.ptr 0 (.k 0) 8))] [[.c (.f (.i .i64 x0)), .c (.sl 1 (.k 0) (.s x1) 9 w0), .c (.f (.i .i64 x2)), .c (.f (.i .i64 x3)), .c (.f (.i .i64 x4)), .c (.f (.i .i64 x5)), .c (.f (.i .i64 x6)), .c (.f (.i .i64 x7))], [.a (.s x1) [.i .i64 x8, .i .i64 x9, .i .i64 x10, .i .i64 x11,
  .i .i64 x12, .i .i64 x13, .i .i64 x14, .i .i64 x15, .i .i64 x16]]] = K_astrolaberef13_Spoilt x0 x1 x2 x3 x4 x5 x6 x7 x8 x9 x10 x11 x12 x13 x14 x15 x16 w0 (fun (d : RG9t0) => some (Res.mk (AV.tup []) [Ch.set [Sg.c (fI d.1), Sg.c (CV.sl 1 (Off.k 0) (Sz.s d.2.1) 9 d.2.2.1),
  Sg.c (fI d.2.2.2.1), Sg.c (fI d.c4.1), Sg.c (fI d.c4.2.1), Sg.c (fI d.c4.2.2.1), Sg.c (fI d.c4.2.2.2.1), Sg.c (fI d.c8)],
  Ch.keep] [])) := by kernel_rfl
theorem m_astrolaberef13_Spoilt {ρ σ : Type} (q : ρ → Option σ)    (x0 : Int) (x1 : Nat) (x2 : Int) (x3 : Int) (x4 : Int) (x5 : Int) (x6 : Int) (x7 : Int) (x8 : Nat → Int) (x9 : Nat → Int) (x10 : Nat → Int) (x11 : Nat → Int) (x12 : Nat → Int) (x13 : Nat → Int) (x14 : Nat → Int) (x15 : Nat → Int) (x16 : Nat → Int) (w0 : Bool) (k : (RG9t0) → Option ρ) : (K_astrolaberef13_Spoilt   x0 x1 x2 x3 x4 x5 x6 x7 x8 x9 x10 x11 x12 x13 x14 x15 x16 w0 k).bind q = K_astrolaberef13_Spoilt   x0 x1 x2 x3 x4 x5 x6 x7 x8 x9 x10 x11 x12 x13 x14 x15 x16 w0 (fun d => (k d).bind q) := by
  simp only [K_astrolaberef13_Spoilt, bnd_cond, bnd_bind, bnd_none, bnd_sum]
theorem qa_astrolaberef13_Spoilt : ∀ b, (QA_astrolaberef13_Spoilt).em b = ([.r (.c (.ptr 0 (.k 0) 8))], [[.c (.f (.i .i64 b.2.1.1)), .c (.sl 1 (.k 0) (.s b.2.1.2.1.2.2.1) 9 b.2.1.2.1.c4), .c (.f (.i .i64 b.2.1.2.2.1)), .c (.f (.i .i64 b.2.1.2.2.2.1)), .c (.f (.i .i64 b.2.1.c4.1)), .c (.f (.i .i64 b.2.1.c4.2.1)), .c (.f (.i .i64 b.2.1.c4.2.2.1)), .c (.f (.i .i64 b.2.1.c4.2.2.2.1))], [.a (.s b.2.2.1.1.1) [.i .i64 b.2.2.1.1.2.1, .i .i64 b.2.2.1.1.2.2.1, .i .i64 b.2.2.1.1.2.2.2.1, .i .i64 b.2.2.1.1.c4.1, .i .i64 b.2.2.1.1.c4.2.1, .i .i64 b.2.2.1.1.c4.2.2.1, .i .i64 b.2.2.1.1.c4.2.2.2.1, .i .i64 b.2.2.1.1.c8.1, .i .i64 b.2.2.1.1.c8.2.1]]]) := fun b => by kernel_rfl
theorem e_astrolaberef13_Spoilt {f : (Int) → (Nat) → (Int) → (Int) → (Int) → (Int) → (Int) → (Int) → NI → NI → NI → NI → NI → NI → NI → NI → NI → (Bool) → Option (RG9t0)} {args : List AV} {h : List Blk} {r : Res} (hr : (F_astrolaberef13_Spoilt f args h).eval = some r) : ∃ x0 x1 x2 x3 x4 x5 x6 x7 x8 x9 x10 x11 x12 x13 x14 x15 x16 w0,
  args = [.r (.c (.ptr 0 (.k 0) 8))] ∧ h = [[.c (.f (.i .i64 x0)), .c (.sl 1 (.k 0) (.s x1) 9 w0), .c (.f (.i .i64 x2)), .c (.f (.i .i64 x3)), .c (.f (.i .i64 x4)), .c (.f (.i .i64 x5)), .c (.f (.i .i64 x6)), .c (.f (.i .i64 x7))], [.a (.s x1) [.i .i64 x8, .i .i64 x9, .i .i64 x10, .i .i64 x11, .i .i64 x12,
  .i .i64 x13, .i .i64 x14, .i .i64 x15, .i .i64 x16]]] ∧ (f x0 x1 x2 x3 x4 x5 x6 x7 x8 x9 x10 x11 x12 x13 x14 x15 x16 w0).bind (fun (d : RG9t0) => some (Res.mk (AV.tup []) [Ch.set [Sg.c (fI d.1), Sg.c (CV.sl 1 (Off.k 0) (Sz.s d.2.1) 9 d.2.2.1),
  Sg.c (fI d.2.2.2.1), Sg.c (fI d.c4.1), Sg.c (fI d.c4.2.1), Sg.c (fI d.c4.2.2.1), Sg.c (fI d.c4.2.2.2.1), Sg.c (fI d.c8)],
  Ch.keep] [])) = some r := by
  unfold F_astrolaberef13_Spoilt at hr
  split at hr
  · rename_i b hb
    have e := ((QA_astrolaberef13_Spoilt).ok _ _ hb).trans (qa_astrolaberef13_Spoilt b)
    obtain ⟨he, hr1⟩ := test_eval hr
    clear hr
    have hr := hr1
    clear hr1
    rw [Nat.eq_of_beq_eq_true he] at e
    clear he
    rw [opt_eval2] at hr
    exact ⟨b.2.1.1, b.2.1.2.1.2.2.1, b.2.1.2.2.1, b.2.1.2.2.2.1, b.2.1.c4.1, b.2.1.c4.2.1, b.2.1.c4.2.2.1, b.2.1.c4.2.2.2.1, b.2.2.1.1.2.1, b.2.2.1.1.2.2.1, b.2.2.1.1.2.2.2.1, b.2.2.1.1.c4.1, b.2.2.1.1.c4.2.1, b.2.2.1.1.c4.2.2.1, b.2.2.1.1.c4.2.2.2.1, b.2.2.1.1.c8.1, b.2.2.1.1.c8.2.1, b.2.1.2.1.c4, (Prod.mk.inj e).1, (Prod.mk.inj e).2, hr⟩
  · cases hr
theorem n_astrolaberef13_Spoilt {σ : Type} (q : (RG9t0) → Option σ) (x0 : Int) (x1 : Nat) (x2 : Int) (x3 : Int) (x4 : Int) (x5 : Int) (x6 : Int) (x7 : Int) (x8 : Nat → Int) (x9 : Nat → Int) (x10 : Nat → Int) (x11 : Nat → Int) (x12 : Nat → Int) (x13 : Nat → Int) (x14 : Nat → Int) (x15 : Nat → Int) (x16 : Nat → Int) (w0 : Bool) : (f_astrolaberef13_Spoilt x0 x1 x2 x3 x4 x5 x6 x7 x8 x9 x10 x11 x12 x13 x14 x15 x16 w0).bind q = K_astrolaberef13_Spoilt   x0 x1 x2 x3 x4 x5 x6 x7 x8 x9 x10 x11 x12 x13 x14 x15 x16 w0 q := by
  unfold f_astrolaberef13_Spoilt
  exact m_astrolaberef13_Spoilt q    x0 x1 x2 x3 x4 x5 x6 x7 x8 x9 x10 x11 x12 x13 x14 x15 x16 w0 some
theorem s_astrolaberef13_Spoilt [Amb] : Sound Try.prog 25 (F_astrolaberef13_Spoilt f_astrolaberef13_Spoilt) := (inl_sound (l := []) (.nil _) mixed [] [] 200 (by kernel_rfl)).by (F := F_astrolaberef13_Spoilt f_astrolaberef13_Spoilt) fun args b r hr => by
  obtain ⟨x0, x1, x2, x3, x4, x5, x6, x7, x8, x9, x10, x11, x12, x13, x14, x15, x16, w0, rfl, rfl, hr1⟩ := e_astrolaberef13_Spoilt hr
  exact inl_eval ((d_astrolaberef13_Spoilt   x0 x1 x2 x3 x4 x5 x6 x7 x8 x9 x10 x11 x12 x13 x14 x15 x16 w0).trans ((n_astrolaberef13_Spoilt (fun (d : RG9t0) => some (Res.mk (AV.tup [])
    [Ch.set
        [Sg.c (fI d.1), Sg.c (CV.sl 1 (Off.k 0) (Sz.s d.2.1) 9 d.2.2.1), Sg.c (fI d.2.2.2.1),
          Sg.c (fI d.c4.1), Sg.c (fI d.c4.2.1), Sg.c (fI d.c4.2.2.1),
          Sg.c (fI d.c4.2.2.2.1), Sg.c (fI d.c8)],
      Ch.keep]
    [])) x0 x1 x2 x3 x4 x5 x6 x7 x8 x9 x10 x11 x12 x13 x14 x15 x16 w0).symm.trans hr1))

def S_astrolaberef13_Pop_0 {ρ : Type} (x0 : Int) (x1 : Nat) (x2 : Int) (x3 : Nat) (x4 : Nat) (x5 : Bool) (x6 : Int) (x7 : Int) (x8 : Int) (x9 : Int) (x10 : Int) (x11 : Int) (x12 : Nat) (x13 : Nat → Int) (x14 : Nat → Int) (x15 : Nat → Int) (x16 : Nat → Int) (x17 : Nat → Int) (x18 : Nat → Int) (x19 : Nat →
  Int) (x20 : Nat → Int) (x21 : Nat → Int) (x22 : Nat) (x23 : Nat → Int) (x24 : Nat → Int) (x25 : Nat → Int) (x26 : Nat → Int) (x27 : Nat → Int) (x28 : Nat → Int) (x29 : Nat → Int) (x30 : Nat → Int) (x31 : Nat → Int) (c : (Int × Nat × Int × Nat × Nat × Bool × Int × Int × Int × Int × Int × Int × Nat × (Nat →
  Int) × RG9t1) → Option ρ) (x : (Int × Nat × Nat × Nat × Bool × Int ×
  Bool × Int × Bool × Int × Int × Int × Int × Int × Int × Int × Nat × NI × NI × NI × NI × NI × NI × NI × NI × NI × Nat × NI × NI × NI × NI × NI × NI × NI × (Nat →
  Int) × NI ⊕ RG9t2) → Option ρ) : Option ρ := bif decide (Int.ofNat x4 > 0) then bif inR 0 x4 then bif decide (x13 x3 ≤ x0) then bif inR 0 x4 then bif Nat.ble ((x1 + 1) * 72) 140737488355328 then bif inRe 1 x4 then c (x0, x1 + 1, x2, x3 + 1, x4 - 1, x5 && true,
  x6, x7, x8, x9, x10, x11, x12, x13, x14, x15, x16, x17, x18, x19, x20, x21, x1 + 1, fun (j : Nat) => bif Nat.beq j x1 then x13 x3 else x23 (0 + j), fun (j : Nat) => bif Nat.beq j x1 then x14 x3 else x24 (0 + j), fun (j : Nat) => bif Nat.beq j x1 then x15 x3 else x25 (0 + j), fun (j : Nat) => bif Nat.beq j x1 then
  x16 x3 else x26 (0 + j), fun (j : Nat) => bif Nat.beq j x1 then x17 x3 else x27 (0 + j), fun (j : Nat) => bif Nat.beq j x1 then x18 x3 else x28 (0 + j), fun (j : Nat) => bif Nat.beq j x1 then x19 x3 else x29 (0 + j), fun (j : Nat) => bif Nat.beq j x1 then x20 x3 else x30 (0 + j), fun (j : Nat) => bif Nat.beq j x1 then
  x21 x3 else x31 (0 + j)) else none else none else none else x (Sum.inl (x0, x1, x3, x4, x5, Int.ofNat x4, decide (Int.ofNat x4 > 0), x13 x3, decide (x13 x3 ≤ x0), x2, x6, x7, x8, x9, x10, x11, x12, x13, x14, x15, x16, x17, x18, x19, x20, x21, x22, x23, x24, x25, x26, x27, x28, x29, x30, x31)) else none else
  x (Sum.inr (x0, x1, x3, x4, x5, Int.ofNat x4, decide (Int.ofNat x4 > 0), x2, x6, x7, x8, x9, x10, x11, x12, x13, x14, x15, x16, x17, x18, x19, x20, x21, x22, x23, x24, x25, x26, x27, x28, x29, x30, x31))
section
open Go.Ab.Rdr
def Q_astrolaberef13_Pop_0 := (st (cons (ar (rc (cptr (nat 0) (ok' (nat 0)) (nat 8)))) (cons (ar (rc (cf (fi .i64 hole)))) (cons aund (cons aund (cons aund (cons (ar (rc (csl (nat 2) (ox (nat 0) (nat 0) (nat 9)) (szs hole) (nat 9) (bool true)))) (cons aund (cons aund (cons aund (cons aund (cons aund (cons aund (cons aund (cons aund (cons aund (cons aund (cons aund (cons aund (cons aund (cons aund (cons aund (cons aund (cons aund (cons aund (cons aund (cons aund (cons aund (cons aund (cons aund (cons aund (cons aund (cons aund (cons aund (cons aund (cons aund (cons aund (cons aund (cons aund (cons aund (cons aund (cons aund (cons aund (cons aund (cons aund (cons aund (cons aund (cons aund (cons aund (cons aund (cons aund (cons aund (cons aund (cons aund (cons aund (cons aund (cons aund (cons aund (cons aund (cons aund (cons aund (cons aund (cons aund (cons aund (cons aund nil)))))))))))))))))))))))))))))))))))))))))))))))))))))))))))))))) (cons (some' (cons (gc (cf (fi .i64 hole))) (cons (gc (csl (nat 1) (ox (nat 0) hole (nat 9)) (szs hole) (nat 9) hole)) (cons (gc (cf (fi .i64 hole))) (cons (gc (cf (fi .i64 hole))) (cons (gc (cf (fi .i64 hole))) (cons (gc (cf (fi .i64 hole))) (cons (gc (cf (fi .i64 hole))) (cons (gc (cf (fi .i64 hole))) nil))))))))) (cons (some' (cons (ga (szs hole) (cons (ki .i64 hole) (cons (ki .i64 hole) (cons (ki .i64 hole) (cons (ki .i64 hole) (cons (ki .i64 hole) (cons (ki .i64 hole) (cons (ki .i64 hole) (cons (ki .i64 hole) (cons (ki .i64 hole) nil)))))))))) nil)) (cons (some' (cons (ga (szs hole) (cons (ki .i64 hole) (cons (ki .i64 hole) (cons (ki .i64 hole) (cons (ki .i64 hole) (cons (ki .i64 hole) (cons (ki .i64 hole) (cons (ki .i64 hole) (cons (ki .i64 hole) (cons (ki .i64 hole) nil)))))))))) nil)) nil))) (cons (nat 0) nil))
end
theorem q_astrolaberef13_Pop_0 : ∀ b, (Q_astrolaberef13_Pop_0).em b = St.mk [AV.r (RV.c (CV.ptr 0 (Off.k 0) 8)), AV.r (RV.c (fI b.1.2.1)), und, und, und, AV.r (RV.c (CV.sl 2 (Off.x 0 0 9) (Sz.s b.1.c4.2.1.2.2.1) 9 true)), und, und, und, und, und, und,
  und, und, und, und, und, und, und, und, und, und, und, und, und, und, und, und, und, und, und, und, und, und, und, und, und, und, und, und, und, und, und, und, und, und, und, und, und, und,
  und, und, und, und, und, und, und, und, und, und, und, und, und, und] [some [Sg.c (fI b.2.1.1.1), Sg.c (CV.sl 1 (Off.x 0 b.2.1.1.2.1.2.1.2.1 9) (Sz.s b.2.1.1.2.1.2.2.1) 9 b.2.1.1.2.1.c4), Sg.c (fI b.2.1.1.2.2.1),
  Sg.c (fI b.2.1.1.2.2.2.1), Sg.c (fI b.2.1.1.c4.1), Sg.c (fI b.2.1.1.c4.2.1), Sg.c (fI b.2.1.1.c4.2.2.1), Sg.c (fI b.2.1.1.c4.2.2.2.1)], some [Sg.a (Sz.s b.2.1.2.1.1.1) [kI b.2.1.2.1.1.2.1,
  kI b.2.1.2.1.1.2.2.1, kI b.2.1.2.1.1.2.2.2.1, kI b.2.1.2.1.1.c4.1, kI b.2.1.2.1.1.c4.2.1, kI b.2.1.2.1.1.c4.2.2.1, kI b.2.1.2.1.1.c4.2.2.2.1, kI b.2.1.2.1.1.c8.1,
  kI b.2.1.2.1.1.c8.2.1]], some [Sg.a (Sz.s b.2.1.2.2.1.1.1) [kI b.2.1.2.2.1.1.2.1, kI b.2.1.2.2.1.1.2.2.1, kI b.2.1.2.2.1.1.2.2.2.1, kI b.2.1.2.2.1.1.c4.1, kI b.2.1.2.2.1.1.c4.2.1, kI b.2.1.2.2.1.1.c4.2.2.1,
  kI b.2.1.2.2.1.1.c4.2.2.2.1, kI b.2.1.2.2.1.1.c8.1, kI b.2.1.2.2.1.1.c8.2.1]]] [0] := fun b => by kernel_rfl
def R_astrolaberef13_Pop_0 (l : ∀ {ρ : Type}, (Int × Nat × Int × Nat × Nat × Bool × Int × Int × Int × Int × Int × Int × Nat × NI × NI × NI × NI × NI × NI × NI × NI × NI × Nat × NI × NI × NI × (Nat →
  Int) × NI × NI × NI × NI × NI) → ((Int × Nat × Nat × Nat × Bool × Int × Bool × Int × Bool × Int × Int × Int × Int × Int × Int × Int × Nat × NI × NI × NI × NI × NI × NI × NI × NI × (Nat →
  Int) × RG9t3 ⊕ RG9t2) → Option ρ) → Option ρ) {ρ : Type} (s : St) (K : AX → St → Option ρ) : Option ρ := ((Q_astrolaberef13_Pop_0).rd s).bind fun b => l (b.1.2.1,
  b.1.c4.2.1.2.2.1, b.2.1.1.1, b.2.1.1.2.1.2.1.2.1, b.2.1.1.2.1.2.2.1, b.2.1.1.2.1.c4, b.2.1.1.2.2.1, b.2.1.1.2.2.2.1, b.2.1.1.c4.1, b.2.1.1.c4.2.1, b.2.1.1.c4.2.2.1, b.2.1.1.c4.2.2.2.1, b.2.1.2.1.1.1, b.2.1.2.1.1.2.1, b.2.1.2.1.1.2.2.1, b.2.1.2.1.1.2.2.2.1, b.2.1.2.1.1.c4.1,
  b.2.1.2.1.1.c4.2.1, b.2.1.2.1.1.c4.2.2.1, b.2.1.2.1.1.c4.2.2.2.1, b.2.1.2.1.1.c8.1, b.2.1.2.1.1.c8.2.1, b.2.1.2.2.1.1.1, b.2.1.2.2.1.1.2.1, b.2.1.2.2.1.1.2.2.1, b.2.1.2.2.1.1.2.2.2.1, b.2.1.2.2.1.1.c4.1, b.2.1.2.2.1.1.c4.2.1, b.2.1.2.2.1.1.c4.2.2.1,
  b.2.1.2.2.1.1.c4.2.2.2.1, b.2.1.2.2.1.1.c8.1, b.2.1.2.2.1.1.c8.2.1) (Sum.elim (fun d => K (AX.ex 0) (St.mk [AV.r (RV.c (CV.ptr 0 (Off.k 0) 8)), AV.r (RV.c (fI d.1)), und, und, und, AV.r (RV.c (CV.sl 2 (Off.x 0 0 9) (Sz.s d.2.1) 9 true)),
  und, AV.r (RV.c (CV.ptr 0 (Off.k 0) 8)), AV.r (RV.c (CV.ptr 0 (Off.k 0) 8)), AV.r (RV.c (CV.ptr 0 (Off.k 1) 1)), AV.r (RV.c (CV.sl 1 (Off.x 0 d.2.2.1 9) (Sz.s d.2.2.2.1) 9 d.c4.1)), AV.r (RV.c (fI d.c4.2.1)), AV.r (RV.c (CV.f (FV.b d.c4.2.2.1))),
  AV.r (RV.c (CV.f (FV.b true))), AV.r (RV.c (CV.ptr 0 (Off.k 0) 8)), AV.r (RV.c (CV.ptr 0 (Off.k 0) 8)), AV.r (RV.c (CV.ptr 0 (Off.k 1) 1)), AV.r (RV.c (CV.sl 1 (Off.x 0 d.2.2.1 9) (Sz.s d.2.2.2.1) 9 d.c4.1)), AV.r (RV.c (CV.ptr 1 (Off.x 0 d.2.2.1 9) 9)), AV.r (RV.c (CV.ptr 1 (Off.x 0 d.2.2.1 9) 1)),
  AV.r (RV.c (fI d.c4.2.2.2.1)), AV.r (RV.c (fI d.1)), AV.r (RV.c (CV.f (FV.b d.c8.1))), AV.r (RV.c (CV.f (FV.b d.c8.1))), und, und, und, und, und, und, und,
  und, und, und, und, und, und, und, und, und, und, und, und, und, und, und, und, und, und, und, und, und, und, und, und, und, und, und, und, und, und, und, und, und] [some [Sg.c (fI d.c8.2.1),
  Sg.c (CV.sl 1 (Off.x 0 d.2.2.1 9) (Sz.s d.2.2.2.1) 9 d.c4.1), Sg.c (fI d.c8.2.2.1), Sg.c (fI d.c8.2.2.2.1), Sg.c (fI d.c8.c4.1),
  Sg.c (fI d.c8.c4.2.1), Sg.c (fI d.c8.c4.2.2.1), Sg.c (fI d.c8.c4.2.2.2.1)], some [Sg.a (Sz.s d.c16.1) [kI d.c16.2.1,
  kI d.c16.2.2.1, kI d.c16.2.2.2.1, kI d.c16.c4.1,
  kI d.c16.c4.2.1, kI d.c16.c4.2.2.1, kI d.c16.c4.2.2.2.1,
  kI d.c16.c8.1, kI d.c16.c8.2.1]], some [Sg.a (Sz.s d.c16.c8.2.2.1) [kI d.c16.c8.2.2.2.1,
  kI d.c16.c8.c4.1, kI d.c16.c8.c4.2.1, kI d.c16.c8.c4.2.2.1,
  kI d.c16.c8.c4.2.2.2.1, kI d.c16.c16.1,
  kI d.c16.c16.2.1, kI d.c16.c16.2.2.1,
  kI d.c16.c16.2.2.2]]] [0])) (fun d => K (AX.ex 0) (St.mk [AV.r (RV.c (CV.ptr 0 (Off.k 0) 8)), AV.r (RV.c (fI d.1)), und, und, und,
  AV.r (RV.c (CV.sl 2 (Off.x 0 0 9) (Sz.s d.2.1) 9 true)), und, AV.r (RV.c (CV.ptr 0 (Off.k 0) 8)), AV.r (RV.c (CV.ptr 0 (Off.k 0) 8)), AV.r (RV.c (CV.ptr 0 (Off.k 1) 1)), AV.r (RV.c (CV.sl 1 (Off.x 0 d.2.2.1 9) (Sz.s d.2.2.2.1) 9 d.c4.1)), AV.r (RV.c (fI d.c4.2.1)),
  AV.r (RV.c (CV.f (FV.b d.c4.2.2.1))), AV.r (RV.c (CV.f (FV.b false))), AV.tup [], AV.tup [], AV.tup [], AV.tup [], AV.tup [], AV.tup [], AV.tup [], AV.tup [], AV.tup [], AV.r (RV.c (CV.f (FV.b false))), und, und, und, und, und, und, und, und, und, und,
  und, und, und, und, und, und, und, und, und, und, und, und, und, und, und, und, und, und, und, und, und, und, und, und, und, und, und, und, und, und] [some [Sg.c (fI d.c4.2.2.2.1),
  Sg.c (CV.sl 1 (Off.x 0 d.2.2.1 9) (Sz.s d.2.2.2.1) 9 d.c4.1), Sg.c (fI d.c8.1), Sg.c (fI d.c8.2.1), Sg.c (fI d.c8.2.2.1),
  Sg.c (fI d.c8.2.2.2.1), Sg.c (fI d.c8.c4.1), Sg.c (fI d.c8.c4.2.1)], some [Sg.a (Sz.s d.c8.c4.2.2.1) [kI d.c8.c4.2.2.2.1,
  kI d.c16.1, kI d.c16.2.1, kI d.c16.2.2.1, kI d.c16.2.2.2.1,
  kI d.c16.c4.1, kI d.c16.c4.2.1, kI d.c16.c4.2.2.1,
  kI d.c16.c4.2.2.2.1]], some [Sg.a (Sz.s d.c16.c8.1) [kI d.c16.c8.2.1,
  kI d.c16.c8.2.2.1, kI d.c16.c8.2.2.2.1, kI d.c16.c8.c4.1,
  kI d.c16.c8.c4.2.1, kI d.c16.c8.c4.2.2.1, kI d.c16.c8.c4.2.2.2.1,
  kI d.c16.c16.1, kI d.c16.c16.2]]] [0])))
theorem ms_astrolaberef13_Pop_0 {ρ σ : Type} (q : ρ → Option σ) (x0 : Int) (x1 : Nat) (x2 : Int) (x3 : Nat) (x4 : Nat) (x5 : Bool) (x6 : Int) (x7 : Int) (x8 : Int) (x9 : Int) (x10 : Int) (x11 : Int) (x12 : Nat) (x13 : Nat → Int) (x14 : Nat → Int) (x15 : Nat → Int) (x16 : Nat → Int) (x17 : Nat → Int) (x18 : Nat →
  Int) (x19 : Nat → Int) (x20 : Nat → Int) (x21 : Nat → Int) (x22 : Nat) (x23 : Nat → Int) (x24 : Nat → Int) (x25 : Nat → Int) (x26 : Nat → Int) (x27 : Nat → Int) (x28 : Nat → Int) (x29 : Nat → Int) (x30 : Nat → Int) (x31 : Nat → Int) (c : (RG9t4) → Option ρ) (x : (RG9t5 ⊕ Int × Nat × Nat × Nat × Bool × Int × Bool × Int × Int × Int × Int × Int × Int × Int × Nat × NI × NI × NI × NI × NI × NI × NI × NI × NI × Nat × NI × NI × (Nat →
  Int) × NI × NI × NI × NI × NI × NI) → Option ρ) : (S_astrolaberef13_Pop_0 x0 x1 x2 x3 x4 x5 x6 x7 x8 x9 x10 x11 x12 x13 x14 x15 x16 x17 x18 x19 x20 x21 x22 x23 x24 x25 x26 x27 x28 x29 x30 x31 c x).bind q = S_astrolaberef13_Pop_0 x0 x1 x2 x3 x4 x5 x6 x7 x8 x9 x10 x11 x12 x13 x14 x15 x16 x17 x18 x19 x20 x21 x22 x23 x24 x25 x26 x27 x28 x29 x30 x31 (fun d => (c d).bind q) (fun d => (x d).bind q) := by
  simp only [S_astrolaberef13_Pop_0, bnd_cond, bnd_bind, bnd_none, bnd_sum]
def L_astrolaberef13_Pop_0 {ρ : Type} (d : Int × Nat × Int × Nat × Nat × Bool × Int × Int × Int × Int × Int × Int × Nat × NI × NI × NI × NI × NI × NI × NI × NI × NI × Nat × NI × NI × NI × (Nat →
  Int) × NI × NI × NI × NI × NI) (k : (Int × Nat × Nat × Nat × Bool × Int × Bool × Int × Bool × Int × Int × Int × Int × Int × Int × Int × Nat × NI × NI × NI × NI × NI × NI × NI × NI × (Nat →
  Int) × RG9t3 ⊕ RG9t2) → Option ρ) : Option ρ := loopK (fun d c x => S_astrolaberef13_Pop_0 d.1 d.2.1 d.2.2.1 d.2.2.2.1 d.c4.1 d.c4.2.1 d.c4.2.2.1 d.c4.2.2.2.1 d.c8.1 d.c8.2.1 d.c8.2.2.1 d.c8.2.2.2.1 d.c8.c4.1 d.c8.c4.2.1 d.c8.c4.2.2.1 d.c8.c4.2.2.2.1 d.c16.1 d.c16.2.1 d.c16.2.2.1 d.c16.2.2.2.1 d.c16.c4.1 d.c16.c4.2.1 d.c16.c4.2.2.1 d.c16.c4.2.2.2.1 d.c16.c8.1 d.c16.c8.2.1 d.c16.c8.2.2.1 d.c16.c8.2.2.2.1 d.c16.c8.c4.1 d.c16.c8.c4.2.1 d.c16.c8.c4.2.2.1 d.c16.c8.c4.2.2.2 c x) 200 d k
theorem mL_astrolaberef13_Pop_0 {ρ σ : Type} (q : ρ → Option σ) (d : Int × Nat × Int × Nat × Nat × Bool × Int × Int × Int × Int × Int × Int × Nat × NI × NI × NI × NI × NI × NI × NI × NI × NI × Nat × NI × (Nat →
  Int) × NI × NI × NI × NI × NI × NI × NI) (k : (Int × Nat × Nat × Nat × Bool × Int × Bool × Int × Bool × Int × Int × Int × Int × Int × Int × Int × Nat × NI × NI × NI × NI × NI × NI × (Nat →
  Int) × RG9t6 ⊕ RG9t2) → Option ρ) : (L_astrolaberef13_Pop_0 d k).bind q = L_astrolaberef13_Pop_0 d fun x => (k x).bind q := loopK_bind q (fun d c x => ms_astrolaberef13_Pop_0 q d.1 d.2.1 d.2.2.1 d.2.2.2.1 d.c4.1 d.c4.2.1 d.c4.2.2.1 d.c4.2.2.2.1 d.c8.1 d.c8.2.1 d.c8.2.2.1 d.c8.2.2.2.1 d.c8.c4.1 d.c8.c4.2.1 d.c8.c4.2.2.1 d.c8.c4.2.2.2.1 d.c16.1 d.c16.2.1 d.c16.2.2.1 d.c16.2.2.2.1 d.c16.c4.1 d.c16.c4.2.1 d.c16.c4.2.2.1 d.c16.c4.2.2.2.1 d.c16.c8.1 d.c16.c8.2.1 d.c16.c8.2.2.1 d.c16.c8.2.2.2.1 d.c16.c8.c4.1 d.c16.c8.c4.2.1 d.c16.c8.c4.2.2.1 d.c16.c8.c4.2.2.2 c x) k _ d
theorem ds_astrolaberef13_Pop_0 {ρ : Type} (l_0 : ∀ {ρ : Type}, (RG9t4) → ((RG9t5 ⊕ Int × Nat × Nat × Nat × Bool × Int × Bool × Int × Int × Int × Int × Int × Int × Int × Nat × NI × NI × NI × (Nat →
  Int) × RG9t7) → Option ρ) → Option ρ) (x0 : Int) (x1 : Nat) (x2 : Int) (x3 : Nat) (x4 : Nat) (x5 : Bool) (x6 : Int) (x7 : Int) (x8 : Int) (x9 : Int) (x10 : Int) (x11 : Int) (x12 : Nat) (x13 : Nat →
  Int) (x14 : Nat → Int) (x15 : Nat → Int) (x16 : Nat → Int) (x17 : Nat → Int) (x18 : Nat → Int) (x19 : Nat → Int) (x20 : Nat → Int) (x21 : Nat → Int) (x22 : Nat) (x23 : Nat → Int) (x24 : Nat → Int) (x25 : Nat → Int) (x26 : Nat → Int) (x27 : Nat → Int) (x28 : Nat → Int) (x29 : Nat → Int) (x30 : Nat → Int) (x31 : Nat →
  Int) (c : St → Option ρ) (K : AX → St → Option ρ) : runC Try.prog (envOf []) ⟨[⟨2, [2, 3, 4, 7, 8, 9, 10, 11, 12, 13, 23, 24, 25, 26, 27, 28, 29, 30, 31, 32, 33, 34, 35, 36, 37, 38, 39, 40, 41, 42, 43, 44, 45, 46, 47, 48, 49, 50, 51, 52, 53, 54, 55, 56, 57, 58, 59, 60, 61, 62, 63, 6, 14, 15, 16, 17,
  18, 19, 20, 21, 22], [(0, [])]⟩], [⟨2, 2, @R_astrolaberef13_Pop_0 (@l_0)⟩], [0], [], (some ⟨0, [0, 1, 2, 3, 5, 6, 7, 8, 9, 10, 11, 12, 13, 14, 15, 16, 17, 18, 19, 20, 21, 22, 23, 24, 25, 26, 27, 28, 29, 30, 31, 32, 33, 34, 35, 36, 37, 38, 39, 40, 41, 42, 43, 44, 45, 46, 47, 48, 49, 50, 51, 52, 53, 54,
  55, 56, 57, 58, 59, 60, 61, 62, 63], []⟩)⟩ (tmpsOf Try.prog 23) 2 200 (loopIn Try.prog 23 2) (St.mk [AV.r (RV.c (CV.ptr 0 (Off.k 0) 8)), AV.r (RV.c (fI x0)), und, und, und, AV.r (RV.c (CV.sl 2 (Off.x 0 0 9) (Sz.s x1) 9 true)), und, und, und, und, und,
  und, und, und, und, und, und, und, und, und, und, und, und, und, und, und, und, und, und, und, und, und, und, und, und, und, und, und, und, und, und, und, und, und, und, und, und, und, und,
  und, und, und, und, und, und, und, und, und, und, und, und, und, und, und] [some [Sg.c (fI x2), Sg.c (CV.sl 1 (Off.x 0 x3 9) (Sz.s x4) 9 x5), Sg.c (fI x6), Sg.c (fI x7), Sg.c (fI x8),
  Sg.c (fI x9), Sg.c (fI x10), Sg.c (fI x11)], some [Sg.a (Sz.s x12) [kI x13, kI x14, kI x15, kI x16, kI x17, kI x18, kI x19, kI x20,
  kI x21]], some [Sg.a (Sz.s x22) [kI x23, kI x24, kI x25, kI x26, kI x27, kI x28, kI x29, kI x30, kI x31]]] [0]) (next (fun t => t.head 2 ⟨[⟨2, [2, 3, 4,
  7, 8, 9, 10, 11, 12, 13, 23, 24, 25, 26, 27, 28, 29, 30, 31, 32, 33, 34, 35, 36, 37, 38, 39, 40, 41, 42, 43, 44, 45, 46, 47, 48, 49, 50, 51, 52, 53, 54, 55, 56, 57, 58, 59, 60, 61, 62, 63, 6, 14, 15, 16, 17, 18, 19, 20, 21, 22], [(0, [])]⟩], [⟨2, 2, @R_astrolaberef13_Pop_0 (@l_0)⟩], [0], [], (some ⟨0,
  [0, 1, 2, 3, 5, 6, 7, 8, 9, 10, 11, 12, 13, 14, 15, 16, 17, 18, 19, 20, 21, 22, 23, 24, 25, 26, 27, 28, 29, 30, 31, 32, 33, 34, 35, 36, 37, 38, 39, 40, 41, 42, 43, 44, 45, 46, 47, 48, 49, 50, 51, 52, 53, 54, 55, 56, 57, 58, 59, 60, 61, 62, 63], []⟩)⟩ (loopIn Try.prog 23 2)) c K) = S_astrolaberef13_Pop_0 x0 x1 x2 x3 x4 x5 x6 x7 x8 x9 x10 x11 x12 x13 x14 x15 x16 x17 x18 x19 x20 x21 x22 x23 x24 x25 x26 x27 x28 x29 x30 x31 (fun d => c (St.mk [AV.r (RV.c (CV.ptr 0 (Off.k 0) 8)),
  AV.r (RV.c (fI d.1)), und, und, und, AV.r (RV.c (CV.sl 2 (Off.x 0 0 9) (Sz.s d.2.1) 9 true)), und, und, und, und, und, und, und, und, und, und, und, und, und, und, und, und, und, und, und, und, und, und,
  und, und, und, und, und, und, und, und, und, und, und, und, und, und, und, und, und, und, und, und, und, und, und, und, und, und, und, und, und, und, und, und, und, und, und, und] [some [Sg.c (fI d.2.2.1),
  Sg.c (CV.sl 1 (Off.x 0 d.2.2.2.1 9) (Sz.s d.c4.1) 9 d.c4.2.1), Sg.c (fI d.c4.2.2.1), Sg.c (fI d.c4.2.2.2.1), Sg.c (fI d.c8.1),
  Sg.c (fI d.c8.2.1), Sg.c (fI d.c8.2.2.1), Sg.c (fI d.c8.2.2.2.1)], some [Sg.a (Sz.s d.c8.c4.1) [kI d.c8.c4.2.1,
  kI d.c8.c4.2.2.1, kI d.c8.c4.2.2.2.1, kI d.c16.1, kI d.c16.2.1,
  kI d.c16.2.2.1, kI d.c16.2.2.2.1, kI d.c16.c4.1,
  kI d.c16.c4.2.1]], some [Sg.a (Sz.s d.c16.c4.2.2.1) [kI d.c16.c4.2.2.2.1,
  kI d.c16.c8.1, kI d.c16.c8.2.1, kI d.c16.c8.2.2.1,
  kI d.c16.c8.2.2.2.1, kI d.c16.c8.c4.1, kI d.c16.c8.c4.2.1,
  kI d.c16.c8.c4.2.2.1, kI d.c16.c8.c4.2.2.2]]] [0])) (Sum.elim (fun d => K (AX.ex 0) (St.mk [AV.r (RV.c (CV.ptr 0 (Off.k 0) 8)),
  AV.r (RV.c (fI d.1)), und, und, und, AV.r (RV.c (CV.sl 2 (Off.x 0 0 9) (Sz.s d.2.1) 9 true)), und, AV.r (RV.c (CV.ptr 0 (Off.k 0) 8)), AV.r (RV.c (CV.ptr 0 (Off.k 0) 8)), AV.r (RV.c (CV.ptr 0 (Off.k 1) 1)), AV.r (RV.c (CV.sl 1 (Off.x 0 d.2.2.1 9) (Sz.s d.2.2.2.1) 9 d.c4.1)),
  AV.r (RV.c (fI d.c4.2.1)), AV.r (RV.c (CV.f (FV.b d.c4.2.2.1))), AV.r (RV.c (CV.f (FV.b true))), AV.r (RV.c (CV.ptr 0 (Off.k 0) 8)), AV.r (RV.c (CV.ptr 0 (Off.k 0) 8)), AV.r (RV.c (CV.ptr 0 (Off.k 1) 1)), AV.r (RV.c (CV.sl 1 (Off.x 0 d.2.2.1 9) (Sz.s d.2.2.2.1) 9 d.c4.1)),
  AV.r (RV.c (CV.ptr 1 (Off.x 0 d.2.2.1 9) 9)), AV.r (RV.c (CV.ptr 1 (Off.x 0 d.2.2.1 9) 1)), AV.r (RV.c (fI d.c4.2.2.2.1)), AV.r (RV.c (fI d.1)), AV.r (RV.c (CV.f (FV.b d.c8.1))), AV.r (RV.c (CV.f (FV.b d.c8.1))),
  und, und, und, und, und, und, und, und, und, und, und, und, und, und, und, und, und, und, und, und, und, und, und, und, und, und, und, und, und, und, und, und, und, und, und, und, und, und,
  und, und] [some [Sg.c (fI d.c8.2.1), Sg.c (CV.sl 1 (Off.x 0 d.2.2.1 9) (Sz.s d.2.2.2.1) 9 d.c4.1), Sg.c (fI d.c8.2.2.1), Sg.c (fI d.c8.2.2.2.1),
  Sg.c (fI d.c8.c4.1), Sg.c (fI d.c8.c4.2.1), Sg.c (fI d.c8.c4.2.2.1), Sg.c (fI d.c8.c4.2.2.2.1)],
  some [Sg.a (Sz.s d.c16.1) [kI d.c16.2.1, kI d.c16.2.2.1, kI d.c16.2.2.2.1,
  kI d.c16.c4.1, kI d.c16.c4.2.1, kI d.c16.c4.2.2.1,
  kI d.c16.c4.2.2.2.1, kI d.c16.c8.1, kI d.c16.c8.2.1]],
  some [Sg.a (Sz.s d.c16.c8.2.2.1) [kI d.c16.c8.2.2.2.1, kI d.c16.c8.c4.1,
  kI d.c16.c8.c4.2.1, kI d.c16.c8.c4.2.2.1, kI d.c16.c8.c4.2.2.2.1,
  kI d.c16.c16.1, kI d.c16.c16.2.1,
  kI d.c16.c16.2.2.1, kI d.c16.c16.2.2.2]]] [0])) (fun d => K (AX.ex 0) (St.mk [AV.r (RV.c (CV.ptr 0 (Off.k 0) 8)),
  AV.r (RV.c (fI d.1)), und, und, und, AV.r (RV.c (CV.sl 2 (Off.x 0 0 9) (Sz.s d.2.1) 9 true)), und, AV.r (RV.c (CV.ptr 0 (Off.k 0) 8)), AV.r (RV.c (CV.ptr 0 (Off.k 0) 8)), AV.r (RV.c (CV.ptr 0 (Off.k 1) 1)), AV.r (RV.c (CV.sl 1 (Off.x 0 d.2.2.1 9) (Sz.s d.2.2.2.1) 9 d.c4.1)),
  AV.r (RV.c (fI d.c4.2.1)), AV.r (RV.c (CV.f (FV.b d.c4.2.2.1))), AV.r (RV.c (CV.f (FV.b false))), AV.tup [], AV.tup [], AV.tup [], AV.tup [], AV.tup [], AV.tup [], AV.tup [], AV.tup [], AV.tup [], AV.r (RV.c (CV.f (FV.b false))), und, und,
  und, und, und, und, und, und, und, und, und, und, und, und, und, und, und, und, und, und, und, und, und, und, und, und, und, und, und, und, und, und, und, und, und, und, und, und, und, und] [some [Sg.c (fI d.c4.2.2.2.1),
  Sg.c (CV.sl 1 (Off.x 0 d.2.2.1 9) (Sz.s d.2.2.2.1) 9 d.c4.1), Sg.c (fI d.c8.1), Sg.c (fI d.c8.2.1), Sg.c (fI d.c8.2.2.1),
  Sg.c (fI d.c8.2.2.2.1), Sg.c (fI d.c8.c4.1), Sg.c (fI d.c8.c4.2.1)], some [Sg.a (Sz.s d.c8.c4.2.2.1) [kI d.c8.c4.2.2.2.1,
  kI d.c16.1, kI d.c16.2.1, kI d.c16.2.2.1, kI d.c16.2.2.2.1,
  kI d.c16.c4.1, kI d.c16.c4.2.1, kI d.c16.c4.2.2.1,
  kI d.c16.c4.2.2.2.1]], some [Sg.a (Sz.s d.c16.c8.1) [kI d.c16.c8.2.1,
  kI d.c16.c8.2.2.1, kI d.c16.c8.2.2.2.1, kI d.c16.c8.c4.1,
  kI d.c16.c8.c4.2.1, kI d.c16.c8.c4.2.2.1, kI d.c16.c8.c4.2.2.2.1,
  kI d.c16.c16.1, kI d.c16.c16.2]]] [0]))) := by kernel_rfl
theorem it_astrolaberef13_Pop_0 {ρ : Type} (x0 : Int) (x1 : Nat) (x2 : Int) (x3 : Nat) (x4 : Nat) (x5 : Bool) (x6 : Int) (x7 : Int) (x8 : Int) (x9 : Int) (x10 : Int) (x11 : Int) (x12 : Nat) (x13 : Nat → Int) (x14 : Nat → Int) (x15 : Nat → Int) (x16 : Nat → Int) (x17 : Nat → Int) (x18 : Nat → Int) (x19 : Nat →
  Int) (x20 : Nat → Int) (x21 : Nat → Int) (x22 : Nat) (x23 : Nat → Int) (x24 : Nat → Int) (x25 : Nat → Int) (x26 : Nat → Int) (x27 : Nat → Int) (x28 : Nat → Int) (x29 : Nat → Int) (x30 : Nat → Int) (x31 : Nat → Int) (K : AX → St → Option ρ) : iter (fun t => t.head 2 ⟨[⟨2, [2, 3, 4, 7, 8, 9, 10, 11, 12,
  13, 23, 24, 25, 26, 27, 28, 29, 30, 31, 32, 33, 34, 35, 36, 37, 38, 39, 40, 41, 42, 43, 44, 45, 46, 47, 48, 49, 50, 51, 52, 53, 54, 55, 56, 57, 58, 59, 60, 61, 62, 63, 6, 14, 15, 16, 17, 18, 19, 20, 21, 22], [(0, [])]⟩], [⟨2, 2, @R_astrolaberef13_Pop_0 (@L_astrolaberef13_Pop_0)⟩], [0], [], (some ⟨0,
  [0, 1, 2, 3, 5, 6, 7, 8, 9, 10, 11, 12, 13, 14, 15, 16, 17, 18, 19, 20, 21, 22, 23, 24, 25, 26, 27, 28, 29, 30, 31, 32, 33, 34, 35, 36, 37, 38, 39, 40, 41, 42, 43, 44, 45, 46, 47, 48, 49, 50, 51, 52, 53, 54, 55, 56, 57, 58, 59, 60, 61, 62, 63], []⟩)⟩ (loopIn Try.prog 23 2)) (runC Try.prog (envOf []) ⟨[⟨2,
  [2, 3, 4, 7, 8, 9, 10, 11, 12, 13, 23, 24, 25, 26, 27, 28, 29, 30, 31, 32, 33, 34, 35, 36, 37, 38, 39, 40, 41, 42, 43, 44, 45, 46, 47, 48, 49, 50, 51, 52, 53, 54, 55, 56, 57, 58, 59, 60, 61, 62, 63, 6, 14, 15, 16, 17, 18, 19, 20, 21, 22], [(0, [])]⟩], [⟨2, 2, @R_astrolaberef13_Pop_0 (@L_astrolaberef13_Pop_0)⟩],
  [0], [], (some ⟨0, [0, 1, 2, 3, 5, 6, 7, 8, 9, 10, 11, 12, 13, 14, 15, 16, 17, 18, 19, 20, 21, 22, 23, 24, 25, 26, 27, 28, 29, 30, 31, 32, 33, 34, 35, 36, 37, 38, 39, 40, 41, 42, 43, 44, 45, 46, 47, 48, 49, 50, 51, 52, 53, 54, 55, 56, 57, 58, 59, 60, 61, 62, 63], []⟩)⟩ (tmpsOf Try.prog 23) 2 200 (loopIn Try.prog 23 2)) K 200 (St.mk [AV.r (RV.c (CV.ptr 0 (Off.k 0) 8)),
  AV.r (RV.c (fI x0)), und, und, und, AV.r (RV.c (CV.sl 2 (Off.x 0 0 9) (Sz.s x1) 9 true)), und, und, und, und, und, und, und, und, und, und, und, und, und, und, und, und, und, und, und, und, und, und, und,
  und, und, und, und, und, und, und, und, und, und, und, und, und, und, und, und, und, und, und, und, und, und, und, und, und, und, und, und, und, und, und, und, und, und, und] [some [Sg.c (fI x2),
  Sg.c (CV.sl 1 (Off.x 0 x3 9) (Sz.s x4) 9 x5), Sg.c (fI x6), Sg.c (fI x7), Sg.c (fI x8), Sg.c (fI x9), Sg.c (fI x10), Sg.c (fI x11)], some [Sg.a (Sz.s x12) [kI x13,
  kI x14, kI x15, kI x16, kI x17, kI x18, kI x19, kI x20, kI x21]], some [Sg.a (Sz.s x22) [kI x23, kI x24, kI x25, kI x26,
  kI x27, kI x28, kI x29, kI x30, kI x31]]] [0]) = L_astrolaberef13_Pop_0 (x0, x1, x2, x3, x4, x5, x6, x7, x8, x9, x10, x11, x12, x13, x14, x15, x16, x17, x18, x19, x20, x21, x22, x23, x24, x25, x26, x27, x28, x29, x30, x31) (Sum.elim (fun d => K (AX.ex 0) (St.mk [AV.r (RV.c (CV.ptr 0 (Off.k 0) 8)),
  AV.r (RV.c (fI d.1)), und, und, und, AV.r (RV.c (CV.sl 2 (Off.x 0 0 9) (Sz.s d.2.1) 9 true)), und, AV.r (RV.c (CV.ptr 0 (Off.k 0) 8)), AV.r (RV.c (CV.ptr 0 (Off.k 0) 8)), AV.r (RV.c (CV.ptr 0 (Off.k 1) 1)), AV.r (RV.c (CV.sl 1 (Off.x 0 d.2.2.1 9) (Sz.s d.2.2.2.1) 9 d.c4.1)),
  AV.r (RV.c (fI d.c4.2.1)), AV.r (RV.c (CV.f (FV.b d.c4.2.2.1))), AV.r (RV.c (CV.f (FV.b true))), AV.r (RV.c (CV.ptr 0 (Off.k 0) 8)), AV.r (RV.c (CV.ptr 0 (Off.k 0) 8)), AV.r (RV.c (CV.ptr 0 (Off.k 1) 1)), AV.r (RV.c (CV.sl 1 (Off.x 0 d.2.2.1 9) (Sz.s d.2.2.2.1) 9 d.c4.1)),
  AV.r (RV.c (CV.ptr 1 (Off.x 0 d.2.2.1 9) 9)), AV.r (RV.c (CV.ptr 1 (Off.x 0 d.2.2.1 9) 1)), AV.r (RV.c (fI d.c4.2.2.2.1)), AV.r (RV.c (fI d.1)), AV.r (RV.c (CV.f (FV.b d.c8.1))), AV.r (RV.c (CV.f (FV.b d.c8.1))),
  und, und, und, und, und, und, und, und, und, und, und, und, und, und, und, und, und, und, und, und, und, und, und, und, und, und, und, und, und, und, und, und, und, und, und, und, und, und,
  und, und] [some [Sg.c (fI d.c8.2.1), Sg.c (CV.sl 1 (Off.x 0 d.2.2.1 9) (Sz.s d.2.2.2.1) 9 d.c4.1), Sg.c (fI d.c8.2.2.1), Sg.c (fI d.c8.2.2.2.1),
  Sg.c (fI d.c8.c4.1), Sg.c (fI d.c8.c4.2.1), Sg.c (fI d.c8.c4.2.2.1), Sg.c (fI d.c8.c4.2.2.2.1)],
  some [Sg.a (Sz.s d.c16.1) [kI d.c16.2.1, kI d.c16.2.2.1, kI d.c16.2.2.2.1,
  kI d.c16.c4.1, kI d.c16.c4.2.1, kI d.c16.c4.2.2.1,
  kI d.c16.c4.2.2.2.1, kI d.c16.c8.1, kI d.c16.c8.2.1]],
  some [Sg.a (Sz.s d.c16.c8.2.2.1) [kI d.c16.c8.2.2.2.1, kI d.c16.c8.c4.1,
  kI d.c16.c8.c4.2.1, kI d.c16.c8.c4.2.2.1, kI d.c16.c8.c4.2.2.2.1,
  kI d.c16.c16.1, kI d.c16.c16.2.1,
  kI d.c16.c16.2.2.1, kI d.c16.c16.2.2.2]]] [0])) (fun d => K (AX.ex 0) (St.mk [AV.r (RV.c (CV.ptr 0 (Off.k 0) 8)),
  AV.r (RV.c (fI d.1)), und, und, und, AV.r (RV.c (CV.sl 2 (Off.x 0 0 9) (Sz.s d.2.1) 9 true)), und, AV.r (RV.c (CV.ptr 0 (Off.k 0) 8)), AV.r (RV.c (CV.ptr 0 (Off.k 0) 8)), AV.r (RV.c (CV.ptr 0 (Off.k 1) 1)), AV.r (RV.c (CV.sl 1 (Off.x 0 d.2.2.1 9) (Sz.s d.2.2.2.1) 9 d.c4.1)),
  AV.r (RV.c (fI d.c4.2.1)), AV.r (RV.c (CV.f (FV.b d.c4.2.2.1))), AV.r (RV.c (CV.f (FV.b false))), AV.tup [], AV.tup [], AV.tup [], AV.tup [], AV.tup [], AV.tup [], AV.tup [], AV.tup [], AV.tup [], AV.r (RV.c (CV.f (FV.b false))), und, und,
  und, und, und, und, und, und, und, und, und, und, und, und, und, und, und, und, und, und, und, und, und, und, und, und, und, und, und, und, und, und, und, und, und, und, und, und, und, und] [some [Sg.c (fI d.c4.2.2.2.1),
  Sg.c (CV.sl 1 (Off.x 0 d.2.2.1 9) (Sz.s d.2.2.2.1) 9 d.c4.1), Sg.c (fI d.c8.1), Sg.c (fI d.c8.2.1), Sg.c (fI d.c8.2.2.1),
  Sg.c (fI d.c8.2.2.2.1), Sg.c (fI d.c8.c4.1), Sg.c (fI d.c8.c4.2.1)], some [Sg.a (Sz.s d.c8.c4.2.2.1) [kI d.c8.c4.2.2.2.1,
  kI d.c16.1, kI d.c16.2.1, kI d.c16.2.2.1, kI d.c16.2.2.2.1,
  kI d.c16.c4.1, kI d.c16.c4.2.1, kI d.c16.c4.2.2.1,
  kI d.c16.c4.2.2.2.1]], some [Sg.a (Sz.s d.c16.c8.1) [kI d.c16.c8.2.1,
  kI d.c16.c8.2.2.1, kI d.c16.c8.2.2.2.1, kI d.c16.c8.c4.1,
  kI d.c16.c8.c4.2.1, kI d.c16.c8.c4.2.2.1, kI d.c16.c8.c4.2.2.2.1,
  kI d.c16.c16.1, kI d.c16.c16.2]]] [0]))) := iter_loopX (emb := fun (d : RG9t4) => St.mk [AV.r (RV.c (CV.ptr 0 (Off.k 0) 8)), AV.r (RV.c (fI d.1)), und, und, und, AV.r (RV.c (CV.sl 2 (Off.x 0 0 9) (Sz.s d.2.1) 9 true)), und, und, und, und, und, und, und, und, und, und, und, und, und,
  und, und, und, und, und, und, und, und, und, und, und, und, und, und, und, und, und, und, und, und, und, und, und, und, und, und, und, und, und, und, und, und, und, und, und, und, und, und,
  und, und, und, und, und, und, und] [some [Sg.c (fI d.2.2.1), Sg.c (CV.sl 1 (Off.x 0 d.2.2.2.1 9) (Sz.s d.c4.1) 9 d.c4.2.1), Sg.c (fI d.c4.2.2.1), Sg.c (fI d.c4.2.2.2.1),
  Sg.c (fI d.c8.1), Sg.c (fI d.c8.2.1), Sg.c (fI d.c8.2.2.1), Sg.c (fI d.c8.2.2.2.1)],
  some [Sg.a (Sz.s d.c8.c4.1) [kI d.c8.c4.2.1, kI d.c8.c4.2.2.1, kI d.c8.c4.2.2.2.1,
  kI d.c16.1, kI d.c16.2.1, kI d.c16.2.2.1, kI d.c16.2.2.2.1,
  kI d.c16.c4.1, kI d.c16.c4.2.1]], some [Sg.a (Sz.s d.c16.c4.2.2.1) [kI d.c16.c4.2.2.2.1,
  kI d.c16.c8.1, kI d.c16.c8.2.1, kI d.c16.c8.2.2.1,
  kI d.c16.c8.2.2.2.1, kI d.c16.c8.c4.1, kI d.c16.c8.c4.2.1,
  kI d.c16.c8.c4.2.2.1, kI d.c16.c8.c4.2.2.2]]] [0]) (step := fun d c x => S_astrolaberef13_Pop_0 d.1 d.2.1 d.2.2.1 d.2.2.2.1 d.c4.1 d.c4.2.1 d.c4.2.2.1 d.c4.2.2.2.1 d.c8.1 d.c8.2.1 d.c8.2.2.1 d.c8.2.2.2.1 d.c8.c4.1 d.c8.c4.2.1 d.c8.c4.2.2.1 d.c8.c4.2.2.2.1 d.c16.1 d.c16.2.1 d.c16.2.2.1 d.c16.2.2.2.1 d.c16.c4.1 d.c16.c4.2.1 d.c16.c4.2.2.1 d.c16.c4.2.2.2.1 d.c16.c8.1 d.c16.c8.2.1 d.c16.c8.2.2.1 d.c16.c8.2.2.2.1 d.c16.c8.c4.1 d.c16.c8.c4.2.1 d.c16.c8.c4.2.2.1 d.c16.c8.c4.2.2.2 c x) (kx := (Sum.elim (fun d => K (AX.ex 0) (St.mk [AV.r (RV.c (CV.ptr 0 (Off.k 0) 8)),
  AV.r (RV.c (fI d.1)), und, und, und, AV.r (RV.c (CV.sl 2 (Off.x 0 0 9) (Sz.s d.2.1) 9 true)), und, AV.r (RV.c (CV.ptr 0 (Off.k 0) 8)), AV.r (RV.c (CV.ptr 0 (Off.k 0) 8)), AV.r (RV.c (CV.ptr 0 (Off.k 1) 1)), AV.r (RV.c (CV.sl 1 (Off.x 0 d.2.2.1 9) (Sz.s d.2.2.2.1) 9 d.c4.1)),
  AV.r (RV.c (fI d.c4.2.1)), AV.r (RV.c (CV.f (FV.b d.c4.2.2.1))), AV.r (RV.c (CV.f (FV.b true))), AV.r (RV.c (CV.ptr 0 (Off.k 0) 8)), AV.r (RV.c (CV.ptr 0 (Off.k 0) 8)), AV.r (RV.c (CV.ptr 0 (Off.k 1) 1)), AV.r (RV.c (CV.sl 1 (Off.x 0 d.2.2.1 9) (Sz.s d.2.2.2.1) 9 d.c4.1)),
  AV.r (RV.c (CV.ptr 1 (Off.x 0 d.2.2.1 9) 9)), AV.r (RV.c (CV.ptr 1 (Off.x 0 d.2.2.1 9) 1)), AV.r (RV.c (fI d.c4.2.2.2.1)), AV.r (RV.c (fI d.1)), AV.r (RV.c (CV.f (FV.b d.c8.1))), AV.r (RV.c (CV.f (FV.b d.c8.1))),
  und, und, und, und, und, und, und, und, und, und, und, und, und, und, und, und, und, und, und, und, und, und, und, und, und, und, und, und, und, und, und, und, und, und, und, und, und, und,
  und, und] [some [Sg.c (fI d.c8.2.1), Sg.c (CV.sl 1 (Off.x 0 d.2.2.1 9) (Sz.s d.2.2.2.1) 9 d.c4.1), Sg.c (fI d.c8.2.2.1), Sg.c (fI d.c8.2.2.2.1),
  Sg.c (fI d.c8.c4.1), Sg.c (fI d.c8.c4.2.1), Sg.c (fI d.c8.c4.2.2.1), Sg.c (fI d.c8.c4.2.2.2.1)],
  some [Sg.a (Sz.s d.c16.1) [kI d.c16.2.1, kI d.c16.2.2.1, kI d.c16.2.2.2.1,
  kI d.c16.c4.1, kI d.c16.c4.2.1, kI d.c16.c4.2.2.1,
  kI d.c16.c4.2.2.2.1, kI d.c16.c8.1, kI d.c16.c8.2.1]],
  some [Sg.a (Sz.s d.c16.c8.2.2.1) [kI d.c16.c8.2.2.2.1, kI d.c16.c8.c4.1,
  kI d.c16.c8.c4.2.1, kI d.c16.c8.c4.2.2.1, kI d.c16.c8.c4.2.2.2.1,
  kI d.c16.c16.1, kI d.c16.c16.2.1,
  kI d.c16.c16.2.2.1, kI d.c16.c16.2.2.2]]] [0])) (fun d => K (AX.ex 0) (St.mk [AV.r (RV.c (CV.ptr 0 (Off.k 0) 8)),
  AV.r (RV.c (fI d.1)), und, und, und, AV.r (RV.c (CV.sl 2 (Off.x 0 0 9) (Sz.s d.2.1) 9 true)), und, AV.r (RV.c (CV.ptr 0 (Off.k 0) 8)), AV.r (RV.c (CV.ptr 0 (Off.k 0) 8)), AV.r (RV.c (CV.ptr 0 (Off.k 1) 1)), AV.r (RV.c (CV.sl 1 (Off.x 0 d.2.2.1 9) (Sz.s d.2.2.2.1) 9 d.c4.1)),
  AV.r (RV.c (fI d.c4.2.1)), AV.r (RV.c (CV.f (FV.b d.c4.2.2.1))), AV.r (RV.c (CV.f (FV.b false))), AV.tup [], AV.tup [], AV.tup [], AV.tup [], AV.tup [], AV.tup [], AV.tup [], AV.tup [], AV.tup [], AV.r (RV.c (CV.f (FV.b false))), und, und,
  und, und, und, und, und, und, und, und, und, und, und, und, und, und, und, und, und, und, und, und, und, und, und, und, und, und, und, und, und, und, und, und, und, und, und, und, und, und] [some [Sg.c (fI d.c4.2.2.2.1),
  Sg.c (CV.sl 1 (Off.x 0 d.2.2.1 9) (Sz.s d.2.2.2.1) 9 d.c4.1), Sg.c (fI d.c8.1), Sg.c (fI d.c8.2.1), Sg.c (fI d.c8.2.2.1),
  Sg.c (fI d.c8.2.2.2.1), Sg.c (fI d.c8.c4.1), Sg.c (fI d.c8.c4.2.1)], some [Sg.a (Sz.s d.c8.c4.2.2.1) [kI d.c8.c4.2.2.2.1,
  kI d.c16.1, kI d.c16.2.1, kI d.c16.2.2.1, kI d.c16.2.2.2.1,
  kI d.c16.c4.1, kI d.c16.c4.2.1, kI d.c16.c4.2.2.1,
  kI d.c16.c4.2.2.2.1]], some [Sg.a (Sz.s d.c16.c8.1) [kI d.c16.c8.2.1,
  kI d.c16.c8.2.2.1, kI d.c16.c8.2.2.2.1, kI d.c16.c8.c4.1,
  kI d.c16.c8.c4.2.1, kI d.c16.c8.c4.2.2.1, kI d.c16.c8.c4.2.2.2.1,
  kI d.c16.c16.1, kI d.c16.c16.2]]] [0])))) (fun d c => ds_astrolaberef13_Pop_0 (@L_astrolaberef13_Pop_0) d.1 d.2.1 d.2.2.1 d.2.2.2.1 d.c4.1 d.c4.2.1 d.c4.2.2.1 d.c4.2.2.2.1 d.c8.1 d.c8.2.1 d.c8.2.2.1 d.c8.2.2.2.1 d.c8.c4.1 d.c8.c4.2.1 d.c8.c4.2.2.1 d.c8.c4.2.2.2.1 d.c16.1 d.c16.2.1 d.c16.2.2.1 d.c16.2.2.2.1 d.c16.c4.1 d.c16.c4.2.1 d.c16.c4.2.2.1 d.c16.c4.2.2.2.1 d.c16.c8.1 d.c16.c8.2.1 d.c16.c8.2.2.1 d.c16.c8.2.2.2.1 d.c16.c8.c4.1 d.c16.c8.c4.2.1 d.c16.c8.c4.2.2.1 d.c16.c8.c4.2.2.2 c K) 200 (x0,
  x1, x2, x3, x4, x5, x6, x7, x8, x9, x10, x11, x12, x13, x14, x15, x16, x17, x18, x19, x20, x21, x22, x23, x24, x25, x26, x27, x28, x29, x30, x31)
theorem so_astrolaberef13_Pop_0 [Amb] : ∀ kk, SumOK Try.prog (envOf []) ⟨[⟨2, [2, 3, 4, 7, 8, 9, 10, 11, 12, 13, 23, 24, 25, 26, 27, 28, 29, 30, 31, 32, 33, 34, 35, 36, 37, 38, 39, 40, 41, 42, 43, 44, 45, 46, 47, 48, 49, 50, 51, 52, 53, 54, 55, 56, 57, 58, 59, 60, 61, 62, 63, 6, 14, 15, 16, 17, 18, 19,
  20, 21, 22], [(0, [])]⟩], [⟨2, 2, @R_astrolaberef13_Pop_0 (@L_astrolaberef13_Pop_0)⟩], [0], [], (some ⟨0, [0, 1, 2, 3, 5, 6, 7, 8, 9, 10, 11, 12, 13, 14, 15, 16, 17, 18, 19, 20, 21, 22, 23, 24, 25, 26, 27, 28, 29, 30, 31, 32, 33, 34, 35, 36, 37, 38, 39, 40, 41, 42, 43, 44, 45, 46, 47, 48, 49, 50, 51,
  52, 53, 54, 55, 56, 57, 58, 59, 60, 61, 62, 63], []⟩)⟩ (tmpsOf Try.prog 23) kk 200 (loopIn Try.prog 23 2) := SumOK.of (id := 2) (k0 := 2) (run := @R_astrolaberef13_Pop_0 (@L_astrolaberef13_Pop_0)) (by kernel_rfl) fun s K r hr => by
    unfold R_astrolaberef13_Pop_0 at hr
    obtain ⟨b, hb, hr1⟩ := Option.bind_eq_some_iff.1 hr
    have e := ((Q_astrolaberef13_Pop_0).ok s b hb).trans (q_astrolaberef13_Pop_0 b)
    subst e
    exact ⟨200, (it_astrolaberef13_Pop_0 b.1.2.1 b.1.c4.2.1.2.2.1 b.2.1.1.1 b.2.1.1.2.1.2.1.2.1 b.2.1.1.2.1.2.2.1 b.2.1.1.2.1.c4 b.2.1.1.2.2.1 b.2.1.1.2.2.2.1 b.2.1.1.c4.1 b.2.1.1.c4.2.1 b.2.1.1.c4.2.2.1 b.2.1.1.c4.2.2.2.1 b.2.1.2.1.1.1 b.2.1.2.1.1.2.1 b.2.1.2.1.1.2.2.1 b.2.1.2.1.1.2.2.2.1 b.2.1.2.1.1.c4.1 b.2.1.2.1.1.c4.2.1 b.2.1.2.1.1.c4.2.2.1 b.2.1.2.1.1.c4.2.2.2.1 b.2.1.2.1.1.c8.1 b.2.1.2.1.1.c8.2.1 b.2.1.2.2.1.1.1 b.2.1.2.2.1.1.2.1 b.2.1.2.2.1.1.2.2.1 b.2.1.2.2.1.1.2.2.2.1 b.2.1.2.2.1.1.c4.1 b.2.1.2.2.1.1.c4.2.1 b.2.1.2.2.1.1.c4.2.2.1 b.2.1.2.2.1.1.c4.2.2.2.1 b.2.1.2.2.1.1.c8.1 b.2.1.2.2.1.1.c8.2.1 K).trans hr1⟩
def K_astrolaberef13_Pop {ρ : Type} (l_0 : ∀ {ρ : Type}, (Int × Nat × Int × Nat × Nat × Bool × Int × Int × Int × Int × Int × Int × Nat × NI × NI × NI × NI × NI × NI × NI × NI × NI × Nat × NI × NI × (Nat →
  Int) × NI × NI × NI × NI × NI × NI) → ((Int × Nat × Nat × Nat × Bool × Int × Bool × Int × Bool × Int × Int × Int × Int × Int × Int × Int × Nat × NI × NI × NI × NI × NI × NI × NI × (Nat →
  Int) × RG9t8 ⊕ RG9t2) → Option ρ) → Option ρ) (x0 : Int) (x1 : Int) (x2 : Nat) (x3 : Int) (x4 : Int) (x5 : Int) (x6 : Int) (x7 : Int) (x8 : Int) (x9 : Nat →
  Int) (x10 : Nat → Int) (x11 : Nat → Int) (x12 : Nat → Int) (x13 : Nat → Int) (x14 : Nat → Int) (x15 : Nat → Int) (x16 : Nat → Int) (x17 : Nat → Int) (w0 : Bool) (k : (Nat × Int × Nat × Nat × Bool × Int × Int × Int × Int × Int × Int × Nat × NI × NI × NI × NI × (Nat →
  Int) × NI × NI × NI × NI) → Option ρ) : Option ρ := l_0 (x0, 0, x1, 0, x2, w0, x3, x4, x5, x6, x7, x8, x2, x9, x10, x11, x12, x13, x14, x15, x16, x17, 0, fun (x : Nat) => 0, fun (x : Nat) => 0, fun (x : Nat) => 0, fun (x : Nat) => 0, fun (x : Nat) => 0, fun (x : Nat) => 0,
  fun (x : Nat) => 0, fun (x : Nat) => 0, fun (x : Nat) => 0) (Sum.elim (fun (d : Int × Nat × Nat × Nat × Bool × Int × Bool × Int × Bool × Int × Int × Int × Int × Int × Int × Int × Nat × NI × NI × NI × NI × NI × NI × NI × NI × (Nat →
  Int) × RG9t3) => bif decide (d.1 > d.c8.2.2.1) then k (d.2.1, d.c8.2.1, d.2.2.1, d.2.2.2.1,
  d.c4.1, d.1, d.c8.2.2.2.1, d.c8.c4.1, d.c8.c4.2.1, d.c8.c4.2.2.1, IntKind.wrap IntKind.i64 (d.c8.c4.2.2.2.1 + Int.ofNat d.2.1),
  d.c16.c8.2.2.1, d.c16.c8.2.2.2.1, d.c16.c8.c4.1,
  d.c16.c8.c4.2.1, d.c16.c8.c4.2.2.1, d.c16.c8.c4.2.2.2.1,
  d.c16.c16.1, d.c16.c16.2.1, d.c16.c16.2.2.1,
  d.c16.c16.2.2.2) else k (d.2.1, d.c8.2.1, d.2.2.1, d.2.2.2.1, d.c4.1, d.c8.2.2.1,
  d.c8.2.2.2.1, d.c8.c4.1, d.c8.c4.2.1, d.c8.c4.2.2.1, IntKind.wrap IntKind.i64 (d.c8.c4.2.2.2.1 + Int.ofNat d.2.1),
  d.c16.c8.2.2.1, d.c16.c8.2.2.2.1, d.c16.c8.c4.1,
  d.c16.c8.c4.2.1, d.c16.c8.c4.2.2.1, d.c16.c8.c4.2.2.2.1,
  d.c16.c16.1, d.c16.c16.2.1, d.c16.c16.2.2.1,
  d.c16.c16.2.2.2)) fun (d : Int × Nat × Nat × Nat × Bool × Int × Bool × Int × Int × Int × Int × Int × Int × Int × Nat × NI × NI × NI × NI × (Nat →
  Int) × RG9t9) => bif decide (d.1 > d.c8.1) then k (d.2.1, d.c4.2.2.2.1,
  d.2.2.1, d.2.2.2.1, d.c4.1, d.1, d.c8.2.1, d.c8.2.2.1, d.c8.2.2.2.1, d.c8.c4.1, IntKind.wrap IntKind.i64 (d.c8.c4.2.1 + Int.ofNat d.2.1),
  d.c16.c8.1, d.c16.c8.2.1, d.c16.c8.2.2.1,
  d.c16.c8.2.2.2.1, d.c16.c8.c4.1, d.c16.c8.c4.2.1,
  d.c16.c8.c4.2.2.1, d.c16.c8.c4.2.2.2.1, d.c16.c16.1,
  d.c16.c16.2) else k (d.2.1, d.c4.2.2.2.1, d.2.2.1, d.2.2.2.1, d.c4.1, d.c8.1, d.c8.2.1,
  d.c8.2.2.1, d.c8.2.2.2.1, d.c8.c4.1, IntKind.wrap IntKind.i64 (d.c8.c4.2.1 + Int.ofNat d.2.1), d.c16.c8.1,
  d.c16.c8.2.1, d.c16.c8.2.2.1, d.c16.c8.2.2.2.1,
  d.c16.c8.c4.1, d.c16.c8.c4.2.1, d.c16.c8.c4.2.2.1,
  d.c16.c8.c4.2.2.2.1, d.c16.c16.1, d.c16.c16.2))
def f_astrolaberef13_Pop (x0 : Int) (x1 : Int) (x2 : Nat) (x3 : Int) (x4 : Int) (x5 : Int) (x6 : Int) (x7 : Int) (x8 : Int) (x9 : Nat → Int) (x10 : Nat → Int) (x11 : Nat → Int) (x12 : Nat → Int) (x13 : Nat → Int) (x14 : Nat → Int) (x15 : Nat → Int) (x16 : Nat → Int) (x17 : Nat → Int) (w0 : Bool) : Option (RG9t10) := K_astrolaberef13_Pop  (@L_astrolaberef13_Pop_0) x0 x1 x2 x3 x4 x5 x6 x7 x8 x9 x10 x11 x12 x13 x14 x15 x16 x17 w0 some
section
open Go.Ab.Rdr
def QA_astrolaberef13_Pop := ((pair (cons (ar (rc (cptr (nat 0) (ok' (nat 0)) (nat 8)))) (cons (ar (rc (cf (fi .i64 hole)))) nil)) (cons (cons (gc (cf (fi .i64 hole))) (cons (gc (csl (nat 1) (ok' (nat 0)) (szs hole) (nat 9) hole)) (cons (gc (cf (fi .i64 hole))) (cons (gc (cf (fi .i64 hole))) (cons (gc (cf (fi .i64 hole))) (cons (gc (cf (fi .i64 hole))) (cons (gc (cf (fi .i64 hole))) (cons (gc (cf (fi .i64 hole))) nil)))))))) (cons (cons (ga (szs hole) (cons (ki .i64 hole) (cons (ki .i64 hole) (cons (ki .i64 hole) (cons (ki .i64 hole) (cons (ki .i64 hole) (cons (ki .i64 hole) (cons (ki .i64 hole) (cons (ki .i64 hole) (cons (ki .i64 hole) nil)))))))))) nil) nil))) : Rdr (List AV × List Blk) _)
end
def F_astrolaberef13_Pop (f : (Int) → (Int) → (Nat) → (Int) → (Int) → (Int) → (Int) → (Int) → (Int) → NI → NI → NI → NI → NI → NI → NI → NI → NI → (Bool) → Option (RG9t10)) : Sem1 := fun args h => match (QA_astrolaberef13_Pop).rd (args, h) with
  | some b => .test (Nat.beq b.2.2.1.1.1 b.2.1.2.1.2.2.1) (.opt (f b.1.2.1 b.2.1.1 b.2.1.2.1.2.2.1 b.2.1.2.2.1 b.2.1.2.2.2.1 b.2.1.c4.1 b.2.1.c4.2.1 b.2.1.c4.2.2.1 b.2.1.c4.2.2.2.1 b.2.2.1.1.2.1 b.2.2.1.1.2.2.1 b.2.2.1.1.2.2.2.1 b.2.2.1.1.c4.1 b.2.2.1.1.c4.2.1 b.2.2.1.1.c4.2.2.1 b.2.2.1.1.c4.2.2.2.1 b.2.2.1.1.c8.1 b.2.2.1.1.c8.2.1 b.2.1.2.1.c4) fun (d :
      RG9t10) => .leaf (Res.mk (AV.r (RV.c (CV.sl 2 (Off.x 0 0 9) (Sz.s d.1) 9 true)))
    [Ch.set
        [Sg.c (fI d.2.1), Sg.c (CV.sl 1 (Off.x 0 d.2.2.1 9) (Sz.s d.2.2.2.1) 9 d.c4.1), Sg.c (fI d.c4.2.1),
          Sg.c (fI d.c4.2.2.1), Sg.c (fI d.c4.2.2.2.1),
          Sg.c (fI d.c8.1), Sg.c (fI d.c8.2.1),
          Sg.c (fI d.c8.2.2.1)],
      Ch.keep]
    [[Sg.a (Sz.s d.c8.2.2.2.1)
          [kI d.c8.c4.1, kI d.c8.c4.2.1,
            kI d.c8.c4.2.2.1, kI d.c8.c4.2.2.2.1,
            kI d.c16.1, kI d.c16.2.1,
            kI d.c16.2.2.1,
            kI d.c16.2.2.2.1,
            kI d.c16.c4]]])) .fail
  | none => .fail
theorem d_astrolaberef13_Pop (l_0 : ∀ {ρ : Type}, (RG9t4) → ((RG9t5 ⊕ Int × Nat × Nat × Nat × Bool × Int × Bool × Int × Int × Int × Int × Int × Int × Int × Nat × NI × NI × NI × NI × (Nat →
  Int) × RG9t9) → Option ρ) → Option ρ) (x0 : Int) (x1 : Int) (x2 : Nat) (x3 : Int) (x4 : Int) (x5 : Int) (x6 : Int) (x7 : Int) (x8 : Int) (x9 : Nat →
  Int) (x10 : Nat → Int) (x11 : Nat → Int) (x12 : Nat → Int) (x13 : Nat → Int) (x14 : Nat → Int) (x15 : Nat → Int) (x16 : Nat → Int) (x17 : Nat → Int) (w0 : Bool) : den Try.prog (envOf []) ⟨[⟨2, [2, 3, 4, 7, 8, 9, 10, 11, 12, 13, 23, 24, 25, 26, 27, 28, 29, 30, 31, 32, 33, 34, 35, 36, 37, 38, 39, 40, 41,
  42, 43, 44, 45, 46, 47, 48, 49, 50, 51, 52, 53, 54, 55, 56, 57, 58, 59, 60, 61, 62, 63, 6, 14, 15, 16, 17, 18, 19, 20, 21, 22], [(0, [])]⟩], [⟨2, 2, @R_astrolaberef13_Pop_0 (@l_0)⟩], [0], [], (some ⟨0, [0, 1, 2, 3, 5, 6, 7, 8, 9, 10, 11, 12, 13, 14, 15, 16, 17, 18, 19, 20, 21, 22, 23, 24, 25, 26, 27,
  28, 29, 30, 31, 32, 33, 34, 35, 36, 37, 38, 39, 40, 41, 42, 43, 44, 45, 46, 47, 48, 49, 50, 51, 52, 53, 54, 55, 56, 57, 58, 59, 60, 61, 62, 63], []⟩)⟩ 200 23 [.r (.c (.ptr 0 (.k 0) 8)), .r (.c (.f (.i .i64 x0)))] [[.c (.f (.i .i64 x1)), .c (.sl 1 (.k 0) (.s x2) 9 w0), .c (.f (.i .i64 x3)), .c (.f (.i .i64 x4)),
  .c (.f (.i .i64 x5)), .c (.f (.i .i64 x6)), .c (.f (.i .i64 x7)), .c (.f (.i .i64 x8))], [.a (.s x2) [.i .i64 x9, .i .i64 x10, .i .i64 x11, .i .i64 x12, .i .i64 x13, .i .i64 x14, .i .i64 x15, .i .i64 x16, .i .i64 x17]]] = K_astrolaberef13_Pop (@l_0) x0 x1 x2 x3 x4 x5 x6 x7 x8 x9 x10 x11 x12 x13 x14 x15 x16 x17 w0 (fun (d : RG9t10) => some (Res.mk (AV.r (RV.c (CV.sl 2 (Off.x 0 0 9) (Sz.s d.1) 9 true))) [Ch.set [Sg.c (fI d.2.1),
  Sg.c (CV.sl 1 (Off.x 0 d.2.2.1 9) (Sz.s d.2.2.2.1) 9 d.c4.1), Sg.c (fI d.c4.2.1), Sg.c (fI d.c4.2.2.1), Sg.c (fI d.c4.2.2.2.1), Sg.c (fI d.c8.1),
  Sg.c (fI d.c8.2.1), Sg.c (fI d.c8.2.2.1)], Ch.keep] [[Sg.a (Sz.s d.c8.2.2.2.1) [kI d.c8.c4.1, kI d.c8.c4.2.1,
  kI d.c8.c4.2.2.1, kI d.c8.c4.2.2.2.1, kI d.c16.1, kI d.c16.2.1,
  kI d.c16.2.2.1, kI d.c16.2.2.2.1, kI d.c16.c4]]])) := by kernel_rfl
theorem m_astrolaberef13_Pop {ρ σ : Type} (q : ρ → Option σ) (l_0 : ∀ {ρ : Type}, (Int × Nat × Int × Nat × Nat × Bool × Int × Int × Int × Int × Int × Int × Nat × NI × NI × NI × NI × NI × NI × NI × NI × NI × Nat × (Nat →
  Int) × RG9t11) → ((Int × Nat × Nat × Nat × Bool × Int × Bool × Int × Bool × Int × Int × Int × Int × Int × Int × Int × Nat × NI × NI × NI × NI × NI × (Nat →
  Int) × RG9t12 ⊕ RG9t2) → Option ρ) → Option ρ) (hl_0 : ∀ {ρ σ : Type} (q : ρ → Option σ) (d : RG9t4) (k : (Int × Nat × Nat × Nat × Bool × Int × Bool × Int × Bool × Int × Int × Int × Int × Int × Int × Int × Nat × NI × NI × NI × NI × NI × NI × NI × NI × NI × Nat × NI × NI × (Nat →
  Int) × NI × NI × NI × NI × NI × NI ⊕ Int × Nat × Nat × Nat × Bool × Int × Bool × Int × Int × Int × Int × Int × Int × Int × Nat × NI × NI × NI × NI × NI × NI × NI × NI × (Nat →
  Int) × RG9t3) → Option ρ), (l_0 d k).bind q = l_0 d fun x => (k x).bind q) (x0 : Int) (x1 : Int) (x2 : Nat) (x3 : Int) (x4 : Int) (x5 : Int) (x6 : Int) (x7 : Int) (x8 : Int) (x9 : Nat →
  Int) (x10 : Nat → Int) (x11 : Nat → Int) (x12 : Nat → Int) (x13 : Nat → Int) (x14 : Nat → Int) (x15 : Nat → Int) (x16 : Nat → Int) (x17 : Nat → Int) (w0 : Bool) (k : (Nat × Int × Nat × Nat × Bool × Int × Int × Int × Int × Int × Int × Nat × NI × NI × NI × NI × (Nat →
  Int) × NI × NI × NI × NI) → Option ρ) : (K_astrolaberef13_Pop (@l_0) x0 x1 x2 x3 x4 x5 x6 x7 x8 x9 x10 x11 x12 x13 x14 x15 x16 x17 w0 k).bind q = K_astrolaberef13_Pop (@l_0) x0 x1 x2 x3 x4 x5 x6 x7 x8 x9 x10 x11 x12 x13 x14 x15 x16 x17 w0 (fun d => (k d).bind q) := by
  simp only [K_astrolaberef13_Pop, bnd_cond, bnd_bind, bnd_none, bnd_sum, hl_0]
theorem qa_astrolaberef13_Pop : ∀ b, (QA_astrolaberef13_Pop).em b = ([.r (.c (.ptr 0 (.k 0) 8)), .r (.c (.f (.i .i64 b.1.2.1)))], [[.c (.f (.i .i64 b.2.1.1)), .c (.sl 1 (.k 0) (.s b.2.1.2.1.2.2.1) 9 b.2.1.2.1.c4), .c (.f (.i .i64 b.2.1.2.2.1)), .c (.f (.i .i64 b.2.1.2.2.2.1)), .c (.f (.i .i64 b.2.1.c4.1)), .c (.f (.i .i64 b.2.1.c4.2.1)), .c (.f (.i .i64 b.2.1.c4.2.2.1)), .c (.f (.i .i64 b.2.1.c4.2.2.2.1))], [.a (.s b.2.2.1.1.1) [.i .i64 b.2.2.1.1.2.1, .i .i64 b.2.2.1.1.2.2.1, .i .i64 b.2.2.1.1.2.2.2.1, .i .i64 b.2.2.1.1.c4.1, .i .i64 b.2.2.1.1.c4.2.1, .i .i64 b.2.2.1.1.c4.2.2.1, .i .i64 b.2.2.1.1.c4.2.2.2.1, .i .i64 b.2.2.1.1.c8.1, .i .i64 b.2.2.1.1.c8.2.1]]]) := fun b => by kernel_rfl
theorem e_astrolaberef13_Pop {f : (Int) → (Int) → (Nat) → (Int) → (Int) → (Int) → (Int) → (Int) → (Int) → NI → NI → NI → NI → NI → NI → NI → NI → NI → (Bool) → Option (RG9t10)} {args : List AV} {h : List Blk} {r : Res} (hr : (F_astrolaberef13_Pop f args h).eval = some r) : ∃ x0 x1 x2 x3 x4 x5 x6 x7 x8 x9 x10 x11 x12 x13 x14 x15 x16 x17 w0,
  args = [.r (.c (.ptr 0 (.k 0) 8)), .r (.c (.f (.i .i64 x0)))] ∧ h = [[.c (.f (.i .i64 x1)), .c (.sl 1 (.k 0) (.s x2) 9 w0), .c (.f (.i .i64 x3)), .c (.f (.i .i64 x4)), .c (.f (.i .i64 x5)), .c (.f (.i .i64 x6)), .c (.f (.i .i64 x7)), .c (.f (.i .i64 x8))], [.a (.s x2) [.i .i64 x9, .i .i64 x10, .i .i64 x11,
  .i .i64 x12, .i .i64 x13, .i .i64 x14, .i .i64 x15, .i .i64 x16, .i .i64 x17]]] ∧ (f x0 x1 x2 x3 x4 x5 x6 x7 x8 x9 x10 x11 x12 x13 x14 x15 x16 x17 w0).bind (fun (d : Nat × Int × Nat × Nat × Bool × Int × Int × Int × Int × Int × Int × Nat × NI × NI × NI × NI × (Nat →
  Int) × NI × NI × NI × NI) => some (Res.mk (AV.r (RV.c (CV.sl 2 (Off.x 0 0 9) (Sz.s d.1) 9 true))) [Ch.set [Sg.c (fI d.2.1), Sg.c (CV.sl 1 (Off.x 0 d.2.2.1 9) (Sz.s d.2.2.2.1) 9 d.c4.1), Sg.c (fI d.c4.2.1),
  Sg.c (fI d.c4.2.2.1), Sg.c (fI d.c4.2.2.2.1), Sg.c (fI d.c8.1), Sg.c (fI d.c8.2.1), Sg.c (fI d.c8.2.2.1)],
  Ch.keep] [[Sg.a (Sz.s d.c8.2.2.2.1) [kI d.c8.c4.1, kI d.c8.c4.2.1, kI d.c8.c4.2.2.1,
  kI d.c8.c4.2.2.2.1, kI d.c16.1, kI d.c16.2.1, kI d.c16.2.2.1,
  kI d.c16.2.2.2.1, kI d.c16.c4]]])) = some r := by
  unfold F_astrolaberef13_Pop at hr
  split at hr
  · rename_i b hb
    have e := ((QA_astrolaberef13_Pop).ok _ _ hb).trans (qa_astrolaberef13_Pop b)
    obtain ⟨he, hr1⟩ := test_eval hr
    clear hr
    have hr := hr1
    clear hr1
    rw [Nat.eq_of_beq_eq_true he] at e
    clear he
    rw [opt_eval2] at hr
    exact ⟨b.1.2.1, b.2.1.1, b.2.1.2.1.2.2.1, b.2.1.2.2.1, b.2.1.2.2.2.1, b.2.1.c4.1, b.2.1.c4.2.1, b.2.1.c4.2.2.1, b.2.1.c4.2.2.2.1, b.2.2.1.1.2.1, b.2.2.1.1.2.2.1, b.2.2.1.1.2.2.2.1, b.2.2.1.1.c4.1, b.2.2.1.1.c4.2.1, b.2.2.1.1.c4.2.2.1, b.2.2.1.1.c4.2.2.2.1, b.2.2.1.1.c8.1, b.2.2.1.1.c8.2.1, b.2.1.2.1.c4, (Prod.mk.inj e).1, (Prod.mk.inj e).2, hr⟩
  · cases hr
theorem n_astrolaberef13_Pop {σ : Type} (q : (RG9t10) → Option σ) (x0 : Int) (x1 : Int) (x2 : Nat) (x3 : Int) (x4 : Int) (x5 : Int) (x6 : Int) (x7 : Int) (x8 : Int) (x9 : Nat → Int) (x10 : Nat → Int) (x11 : Nat → Int) (x12 : Nat → Int) (x13 : Nat → Int) (x14 : Nat → Int) (x15 : Nat → Int) (x16 : Nat → Int) (x17 : Nat → Int) (w0 : Bool) : (f_astrolaberef13_Pop x0 x1 x2 x3 x4 x5 x6 x7 x8 x9 x10 x11 x12 x13 x14 x15 x16 x17 w0).bind q = K_astrolaberef13_Pop  (@L_astrolaberef13_Pop_0) x0 x1 x2 x3 x4 x5 x6 x7 x8 x9 x10 x11 x12 x13 x14 x15 x16 x17 w0 q := by
  unfold f_astrolaberef13_Pop
  exact m_astrolaberef13_Pop q  (@L_astrolaberef13_Pop_0) (fun q d k => mL_astrolaberef13_Pop_0 q d k) x0 x1 x2 x3 x4 x5 x6 x7 x8 x9 x10 x11 x12 x13 x14 x15 x16 x17 w0 some
theorem s_astrolaberef13_Pop [Amb] : Sound Try.prog 23 (F_astrolaberef13_Pop f_astrolaberef13_Pop) := (inl_sums (l := []) (.nil _) mixed (hs := ⟨[⟨2, [2, 3, 4, 7, 8, 9, 10, 11, 12, 13, 23, 24, 25, 26, 27, 28, 29, 30, 31, 32, 33, 34, 35, 36, 37, 38, 39, 40, 41, 42, 43, 44, 45, 46, 47, 48, 49, 50,
  51, 52, 53, 54, 55, 56, 57, 58, 59, 60, 61, 62, 63, 6, 14, 15, 16, 17, 18, 19, 20, 21, 22], [(0, [])]⟩], [⟨2, 2, @R_astrolaberef13_Pop_0 (@L_astrolaberef13_Pop_0)⟩], [0], [], (some ⟨0, [0, 1, 2, 3, 5, 6, 7, 8, 9, 10, 11, 12, 13, 14, 15, 16, 17, 18, 19, 20, 21, 22, 23, 24, 25, 26, 27, 28, 29, 30, 31,
  32, 33, 34, 35, 36, 37, 38, 39, 40, 41, 42, 43, 44, 45, 46, 47, 48, 49, 50, 51, 52, 53, 54, 55, 56, 57, 58, 59, 60, 61, 62, 63], []⟩)⟩) (lf := 200) (Sums.by (l := [loopIn Try.prog 23 2]) (lj := []) (by kernel_rfl) ⟨so_astrolaberef13_Pop_0, trivial⟩ (by kernel_rfl) trivial) (by kernel_rfl)).by (F := F_astrolaberef13_Pop f_astrolaberef13_Pop) fun args b r hr => by
  obtain ⟨x0, x1, x2, x3, x4, x5, x6, x7, x8, x9, x10, x11, x12, x13, x14, x15, x16, x17, w0, rfl, rfl, hr1⟩ := e_astrolaberef13_Pop hr
  exact inl_eval ((d_astrolaberef13_Pop  (@L_astrolaberef13_Pop_0) x0 x1 x2 x3 x4 x5 x6 x7 x8 x9 x10 x11 x12 x13 x14 x15 x16 x17 w0).trans ((n_astrolaberef13_Pop (fun (d :
      RG9t10) => some (Res.mk (AV.r (RV.c (CV.sl 2 (Off.x 0 0 9) (Sz.s d.1) 9 true)))
    [Ch.set
        [Sg.c (fI d.2.1), Sg.c (CV.sl 1 (Off.x 0 d.2.2.1 9) (Sz.s d.2.2.2.1) 9 d.c4.1), Sg.c (fI d.c4.2.1),
          Sg.c (fI d.c4.2.2.1), Sg.c (fI d.c4.2.2.2.1),
          Sg.c (fI d.c8.1), Sg.c (fI d.c8.2.1),
          Sg.c (fI d.c8.2.2.1)],
      Ch.keep]
    [[Sg.a (Sz.s d.c8.2.2.2.1)
          [kI d.c8.c4.1, kI d.c8.c4.2.1,
            kI d.c8.c4.2.2.1, kI d.c8.c4.2.2.2.1,
            kI d.c16.1, kI d.c16.2.1,
            kI d.c16.2.2.1,
            kI d.c16.2.2.2.1,
            kI d.c16.c4]]])) x0 x1 x2 x3 x4 x5 x6 x7 x8 x9 x10 x11 x12 x13 x14 x15 x16 x17 w0).symm.trans hr1))

end Go.Proofs.Ythbnojedlbeglaa
