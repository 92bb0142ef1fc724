/-
  Contracts by plain functions: fx.Abs, downs.plus, downs.New, downs.Good, (*downs.Sampler).Put, (*downs.Sampler).Pending
-/
import Derived.Test.YtmlmpcabphgfaaaVA
set_option maxRecDepth 100000
set_option maxHeartbeats 4000000
set_option linter.unusedVariables false
namespace Go.Proofs.Ytmlmpcabphgfaaa
open Go.Ab
def K_fx_Abs {ρ : Type}   (x0 : Int) (k : (Int) → Option ρ) : Option ρ :=
  bif decide (x0 ≥ 1152921504606846976) then k 1152921504606846976
  else bif decide (x0 ≤ -1152921504606846976) then k 1152921504606846976 else bif decide (x0 < 0) then k (IntKind.wrap IntKind.i64 (0 - x0)) else k x0
def f_fx_Abs (x0 : Int) : Option (Int) := K_fx_Abs   x0 some
section
open Go.Ab.Rdr
def QA_fx_Abs := ((pair (cons (ar (rc (cf (fi .i64 hole)))) nil) nil) : Rdr (List AV × List Blk) _)
end
def F_fx_Abs (f : (Int) → Option (Int)) : Sem1 := fun args h => match (QA_fx_Abs).rd (args, h) with
  | some b => .opt (f b.1.1) fun (d : Int) => .leaf (Res.mk (AV.r (RV.c (CV.f (FV.i IntKind.i64 d)))) [] [])
  | none => .fail
theorem d_fx_Abs   (x0 : Int) : den Try.prog (envOf []) ⟨[], [], [], [], none⟩ 200 53 [.r (.c (.f (.i .i64 x0)))] [] =
    K_fx_Abs   x0 (fun (d : Int) => some (Res.mk (AV.r (RV.c (CV.f (FV.i IntKind.i64 d)))) [] [])) := by kernel_rfl
theorem m_fx_Abs {ρ σ : Type} (q : ρ → Option σ)    (x0 : Int) (k : (Int) → Option ρ) : (K_fx_Abs   x0 k).bind q = K_fx_Abs   x0 (fun d => (k d).bind q) := by
  simp only [K_fx_Abs, bnd_cond, bnd_bind, bnd_none, bnd_sum]
theorem qa_fx_Abs : ∀ b, (QA_fx_Abs).em b = ([.r (.c (.f (.i .i64 b.1.1)))], []) := fun b => by kernel_rfl
theorem e_fx_Abs {f : (Int) → Option (Int)} {args : List AV} {h : List Blk} {r : Res} (hr : (F_fx_Abs f args h).eval = some r) : ∃ x0, args = [.r (.c (.f (.i .i64 x0)))] ∧ h = [] ∧ (f x0).bind (fun (d : Int) => some (Res.mk (AV.r (RV.c (CV.f (FV.i IntKind.i64 d)))) [] [])) = some r := by
  unfold F_fx_Abs at hr
  split at hr
  · rename_i b hb
    have e := ((QA_fx_Abs).ok _ _ hb).trans (qa_fx_Abs b)
    rw [opt_eval2] at hr
    exact ⟨b.1.1, (Prod.mk.inj e).1, (Prod.mk.inj e).2, hr⟩
  · cases hr
theorem n_fx_Abs {σ : Type} (q : (Int) → Option σ) (x0 : Int) : (f_fx_Abs x0).bind q = K_fx_Abs   x0 q := by
  unfold f_fx_Abs
  exact m_fx_Abs q    x0 some
theorem s_fx_Abs : Sound Try.prog 53 (F_fx_Abs f_fx_Abs) :=
  (inl_sound (l := []) (.nil _) mixed [] [] 200 (by kernel_rfl)).by (F := F_fx_Abs f_fx_Abs) fun args b r hr => by
  obtain ⟨x0, rfl, rfl, hr1⟩ := e_fx_Abs hr
  exact inl_eval ((d_fx_Abs   x0).trans ((n_fx_Abs (fun (d : Int) => some (Res.mk (AV.r (RV.c (CV.f (FV.i IntKind.i64 d)))) [] [])) x0).symm.trans hr1))

def K_downs_plus {ρ : Type} (g_vec_Add : Nat → Bool → (Nat → Int) → (Nat → Int) → (Nat → Int) → Bool → Option (Int × Int × Int × Bool))  (x0 : Int) (x1 : Int) (x2 : Int) (x3 : Int) (x4 : Int) (x5 : Int) (x6 : Int) (x7 : Int) (x8 : Int) (x9 : Int) (x10 : Int) (x11 : Int) (x12 : Int) (x13 : Int) (x14 : Int) (x15 : Int) (x16 : Bool) (k : (Int × Int × Int × Int × Int × Int × Int × Int × Bool) → Option ρ) : Option ρ :=
  Option.bind
    (g_vec_Add 2 x16 (fun (j : Nat) => bif Nat.beq j 1 then x10 else bif Nat.beq j 0 then x2 else x2) (fun (j : Nat) => bif Nat.beq j 1 then x11 else bif Nat.beq j 0 then x3 else x3)
      (fun (j : Nat) => bif Nat.beq j 1 then x12 else bif Nat.beq j 0 then x4 else x4) true)
    fun (d : Int × Int × Int × Bool) =>
    Option.bind
      (g_vec_Add 2 d.2.2.2 (fun (j : Nat) => bif Nat.beq j 1 then x13 else bif Nat.beq j 0 then x5 else x5) (fun (j : Nat) => bif Nat.beq j 1 then x14 else bif Nat.beq j 0 then x6 else x6)
        (fun (j : Nat) => bif Nat.beq j 1 then x15 else bif Nat.beq j 0 then x7 else x7) true)
      fun (d_1 : Int × Int × Int × Bool) => k (x8, IntKind.wrap IntKind.i64 (x1 + x9), d.1, d.2.1, d.2.2.1, d_1.1, d_1.2.1, d_1.2.2.1, d_1.2.2.2)
def f_downs_plus (x0 : Int) (x1 : Int) (x2 : Int) (x3 : Int) (x4 : Int) (x5 : Int) (x6 : Int) (x7 : Int) (x8 : Int) (x9 : Int) (x10 : Int) (x11 : Int) (x12 : Int) (x13 : Int) (x14 : Int) (x15 : Int) (x16 : Bool) : Option (Int × Int × Int × Int × Int × Int × Int × Int × Bool) := K_downs_plus f_vec_Add  x0 x1 x2 x3 x4 x5 x6 x7 x8 x9 x10 x11 x12 x13 x14 x15 x16 some
section
open Go.Ab.Rdr
def QA_downs_plus := ((pair (cons (ar (rc (cptr (nat 0) (ok' (nat 0)) (nat 1)))) (cons (ar (ra (cons (gc (cf (fi .i64 hole))) (cons (gc (cf (fi .i64 hole))) (cons (gc (cf (fi .i64 hole))) (cons (gc (cf (fi .i64 hole))) (cons (gc (cf (fi .i64 hole))) (cons (gc (cf (fi .i64 hole))) (cons (gc (cf (fi .i64 hole))) (cons (gc (cf (fi .i64 hole))) nil)))))))))) (cons (ar (ra (cons (gc (cf (fi .i64 hole))) (cons (gc (cf (fi .i64 hole))) (cons (gc (cf (fi .i64 hole))) (cons (gc (cf (fi .i64 hole))) (cons (gc (cf (fi .i64 hole))) (cons (gc (cf (fi .i64 hole))) (cons (gc (cf (fi .i64 hole))) (cons (gc (cf (fi .i64 hole))) nil)))))))))) nil))) (cons (cons (gc (cf (fb hole))) nil) nil)) : Rdr (List AV × List Blk) _)
end
def F_downs_plus (f : (Int) → (Int) → (Int) → (Int) → (Int) → (Int) → (Int) → (Int) → (Int) → (Int) → (Int) → (Int) → (Int) → (Int) → (Int) → (Int) → (Bool) → Option (Int × Int × Int × Int × Int × Int × Int × Int × Bool)) : Sem1 := fun args h => match (QA_downs_plus).rd (args, h) with
  | some b => .opt (f b.1.2.1.1 b.1.2.1.2.1 b.1.2.1.2.2.1 b.1.2.1.2.2.2.1 b.1.2.1.2.2.2.2.1 b.1.2.1.2.2.2.2.2.1 b.1.2.1.2.2.2.2.2.2.1 b.1.2.1.2.2.2.2.2.2.2.1 b.1.2.2.1.1 b.1.2.2.1.2.1 b.1.2.2.1.2.2.1 b.1.2.2.1.2.2.2.1 b.1.2.2.1.2.2.2.2.1 b.1.2.2.1.2.2.2.2.2.1 b.1.2.2.1.2.2.2.2.2.2.1 b.1.2.2.1.2.2.2.2.2.2.2.1 b.2.1.1) fun (d : Int × Int × Int × Int × Int × Int × Int × Int × Bool) => .leaf (Res.mk
    (AV.r
      (RV.agg
        [Sg.c (CV.f (FV.i IntKind.i64 d.1)), Sg.c (CV.f (FV.i IntKind.i64 d.2.1)), Sg.c (CV.f (FV.i IntKind.i64 d.2.2.1)), Sg.c (CV.f (FV.i IntKind.i64 d.2.2.2.1)),
          Sg.c (CV.f (FV.i IntKind.i64 d.2.2.2.2.1)), Sg.c (CV.f (FV.i IntKind.i64 d.2.2.2.2.2.1)), Sg.c (CV.f (FV.i IntKind.i64 d.2.2.2.2.2.2.1)),
          Sg.c (CV.f (FV.i IntKind.i64 d.2.2.2.2.2.2.2.1))]))
    [Ch.set [Sg.c (CV.f (FV.b d.2.2.2.2.2.2.2.2))]] [])
  | none => .fail
theorem d_downs_plus (g_vec_Add : Nat → Bool → (Nat → Int) → (Nat → Int) → (Nat → Int) → Bool → Option (Int × Int × Int × Bool))  (x0 : Int) (x1 : Int) (x2 : Int) (x3 : Int) (x4 : Int) (x5 : Int) (x6 : Int) (x7 : Int) (x8 : Int) (x9 : Int) (x10 : Int) (x11 : Int) (x12 : Int) (x13 : Int) (x14 : Int) (x15 : Int) (x16 : Bool) : den Try.prog (envOf [(66, F_vec_Add g_vec_Add)]) ⟨[], [], [], [], none⟩ 200 56 [.r (.c (.ptr 0 (.k 0) 1)), .r (.agg [.c (.f (.i .i64 x0)), .c (.f (.i .i64 x1)), .c (.f (.i .i64 x2)), .c (.f (.i .i64 x3)), .c (.f (.i .i64 x4)), .c (.f (.i .i64 x5)), .c (.f (.i .i64 x6)), .c (.f (.i .i64 x7))]), .r (.agg [.c (.f (.i .i64 x8)), .c (.f (.i .i64 x9)), .c (.f (.i .i64 x10)), .c (.f (.i .i64 x11)), .c (.f (.i .i64 x12)), .c (.f (.i .i64 x13)), .c (.f (.i .i64 x14)), .c (.f (.i .i64 x15))])] [[.c (.f (.b x16))]] =
    K_downs_plus g_vec_Add  x0 x1 x2 x3 x4 x5 x6 x7 x8 x9 x10 x11 x12 x13 x14 x15 x16 (fun (d : Int × Int × Int × Int × Int × Int × Int × Int × Bool) => some (Res.mk
    (AV.r
      (RV.agg
        [Sg.c (CV.f (FV.i IntKind.i64 d.1)), Sg.c (CV.f (FV.i IntKind.i64 d.2.1)), Sg.c (CV.f (FV.i IntKind.i64 d.2.2.1)), Sg.c (CV.f (FV.i IntKind.i64 d.2.2.2.1)),
          Sg.c (CV.f (FV.i IntKind.i64 d.2.2.2.2.1)), Sg.c (CV.f (FV.i IntKind.i64 d.2.2.2.2.2.1)), Sg.c (CV.f (FV.i IntKind.i64 d.2.2.2.2.2.2.1)),
          Sg.c (CV.f (FV.i IntKind.i64 d.2.2.2.2.2.2.2.1))]))
    [Ch.set [Sg.c (CV.f (FV.b d.2.2.2.2.2.2.2.2))]] [])) := by kernel_rfl
theorem m_downs_plus {ρ σ : Type} (q : ρ → Option σ) (g_vec_Add : Nat → Bool → (Nat → Int) → (Nat → Int) → (Nat → Int) → Bool → Option (Int × Int × Int × Bool))   (x0 : Int) (x1 : Int) (x2 : Int) (x3 : Int) (x4 : Int) (x5 : Int) (x6 : Int) (x7 : Int) (x8 : Int) (x9 : Int) (x10 : Int) (x11 : Int) (x12 : Int) (x13 : Int) (x14 : Int) (x15 : Int) (x16 : Bool) (k : (Int × Int × Int × Int × Int × Int × Int × Int × Bool) → Option ρ) : (K_downs_plus g_vec_Add  x0 x1 x2 x3 x4 x5 x6 x7 x8 x9 x10 x11 x12 x13 x14 x15 x16 k).bind q = K_downs_plus g_vec_Add  x0 x1 x2 x3 x4 x5 x6 x7 x8 x9 x10 x11 x12 x13 x14 x15 x16 (fun d => (k d).bind q) := by
  simp only [K_downs_plus, bnd_cond, bnd_bind, bnd_none, bnd_sum]
theorem qa_downs_plus : ∀ b, (QA_downs_plus).em b = ([.r (.c (.ptr 0 (.k 0) 1)), .r (.agg [.c (.f (.i .i64 b.1.2.1.1)), .c (.f (.i .i64 b.1.2.1.2.1)), .c (.f (.i .i64 b.1.2.1.2.2.1)), .c (.f (.i .i64 b.1.2.1.2.2.2.1)), .c (.f (.i .i64 b.1.2.1.2.2.2.2.1)), .c (.f (.i .i64 b.1.2.1.2.2.2.2.2.1)), .c (.f (.i .i64 b.1.2.1.2.2.2.2.2.2.1)), .c (.f (.i .i64 b.1.2.1.2.2.2.2.2.2.2.1))]), .r (.agg [.c (.f (.i .i64 b.1.2.2.1.1)), .c (.f (.i .i64 b.1.2.2.1.2.1)), .c (.f (.i .i64 b.1.2.2.1.2.2.1)), .c (.f (.i .i64 b.1.2.2.1.2.2.2.1)), .c (.f (.i .i64 b.1.2.2.1.2.2.2.2.1)), .c (.f (.i .i64 b.1.2.2.1.2.2.2.2.2.1)), .c (.f (.i .i64 b.1.2.2.1.2.2.2.2.2.2.1)), .c (.f (.i .i64 b.1.2.2.1.2.2.2.2.2.2.2.1))])], [[.c (.f (.b b.2.1.1))]]) := fun b => by kernel_rfl
theorem e_downs_plus {f : (Int) → (Int) → (Int) → (Int) → (Int) → (Int) → (Int) → (Int) → (Int) → (Int) → (Int) → (Int) → (Int) → (Int) → (Int) → (Int) → (Bool) → Option (Int × Int × Int × Int × Int × Int × Int × Int × Bool)} {args : List AV} {h : List Blk} {r : Res} (hr : (F_downs_plus f args h).eval = some r) : ∃ x0 x1 x2 x3 x4 x5 x6 x7 x8 x9 x10 x11 x12 x13 x14 x15 x16, args = [.r (.c (.ptr 0 (.k 0) 1)), .r (.agg [.c (.f (.i .i64 x0)), .c (.f (.i .i64 x1)), .c (.f (.i .i64 x2)), .c (.f (.i .i64 x3)), .c (.f (.i .i64 x4)), .c (.f (.i .i64 x5)), .c (.f (.i .i64 x6)), .c (.f (.i .i64 x7))]), .r (.agg [.c (.f (.i .i64 x8)), .c (.f (.i .i64 x9)), .c (.f (.i .i64 x10)), .c (.f (.i .i64 x11)), .c (.f (.i .i64 x12)), .c (.f (.i .i64 x13)), .c (.f (.i .i64 x14)), .c (.f (.i .i64 x15))])] ∧ h = [[.c (.f (.b x16))]] ∧ (f x0 x1 x2 x3 x4 x5 x6 x7 x8 x9 x10 x11 x12 x13 x14 x15 x16).bind (fun (d : Int × Int × Int × Int × Int × Int × Int × Int × Bool) => some (Res.mk
    (AV.r
      (RV.agg
        [Sg.c (CV.f (FV.i IntKind.i64 d.1)), Sg.c (CV.f (FV.i IntKind.i64 d.2.1)), Sg.c (CV.f (FV.i IntKind.i64 d.2.2.1)), Sg.c (CV.f (FV.i IntKind.i64 d.2.2.2.1)),
          Sg.c (CV.f (FV.i IntKind.i64 d.2.2.2.2.1)), Sg.c (CV.f (FV.i IntKind.i64 d.2.2.2.2.2.1)), Sg.c (CV.f (FV.i IntKind.i64 d.2.2.2.2.2.2.1)),
          Sg.c (CV.f (FV.i IntKind.i64 d.2.2.2.2.2.2.2.1))]))
    [Ch.set [Sg.c (CV.f (FV.b d.2.2.2.2.2.2.2.2))]] [])) = some r := by
  unfold F_downs_plus at hr
  split at hr
  · rename_i b hb
    have e := ((QA_downs_plus).ok _ _ hb).trans (qa_downs_plus b)
    rw [opt_eval2] at hr
    exact ⟨b.1.2.1.1, b.1.2.1.2.1, b.1.2.1.2.2.1, b.1.2.1.2.2.2.1, b.1.2.1.2.2.2.2.1, b.1.2.1.2.2.2.2.2.1, b.1.2.1.2.2.2.2.2.2.1, b.1.2.1.2.2.2.2.2.2.2.1, b.1.2.2.1.1, b.1.2.2.1.2.1, b.1.2.2.1.2.2.1, b.1.2.2.1.2.2.2.1, b.1.2.2.1.2.2.2.2.1, b.1.2.2.1.2.2.2.2.2.1, b.1.2.2.1.2.2.2.2.2.2.1, b.1.2.2.1.2.2.2.2.2.2.2.1, b.2.1.1, (Prod.mk.inj e).1, (Prod.mk.inj e).2, hr⟩
  · cases hr
theorem n_downs_plus {σ : Type} (q : (Int × Int × Int × Int × Int × Int × Int × Int × Bool) → Option σ) (x0 : Int) (x1 : Int) (x2 : Int) (x3 : Int) (x4 : Int) (x5 : Int) (x6 : Int) (x7 : Int) (x8 : Int) (x9 : Int) (x10 : Int) (x11 : Int) (x12 : Int) (x13 : Int) (x14 : Int) (x15 : Int) (x16 : Bool) : (f_downs_plus x0 x1 x2 x3 x4 x5 x6 x7 x8 x9 x10 x11 x12 x13 x14 x15 x16).bind q = K_downs_plus f_vec_Add  x0 x1 x2 x3 x4 x5 x6 x7 x8 x9 x10 x11 x12 x13 x14 x15 x16 q := by
  unfold f_downs_plus
  exact m_downs_plus q f_vec_Add   x0 x1 x2 x3 x4 x5 x6 x7 x8 x9 x10 x11 x12 x13 x14 x15 x16 some
theorem s_downs_plus : Sound Try.prog 56 (F_downs_plus f_downs_plus) :=
  (inl_sound (l := [(66, F_vec_Add f_vec_Add)]) (.cons s_vec_Add (.nil _)) mixed [] [] 200 (by kernel_rfl)).by (F := F_downs_plus f_downs_plus) fun args b r hr => by
  obtain ⟨x0, x1, x2, x3, x4, x5, x6, x7, x8, x9, x10, x11, x12, x13, x14, x15, x16, rfl, rfl, hr1⟩ := e_downs_plus hr
  exact inl_eval ((d_downs_plus f_vec_Add  x0 x1 x2 x3 x4 x5 x6 x7 x8 x9 x10 x11 x12 x13 x14 x15 x16).trans ((n_downs_plus (fun (d : Int × Int × Int × Int × Int × Int × Int × Int × Bool) => some (Res.mk
    (AV.r
      (RV.agg
        [Sg.c (CV.f (FV.i IntKind.i64 d.1)), Sg.c (CV.f (FV.i IntKind.i64 d.2.1)), Sg.c (CV.f (FV.i IntKind.i64 d.2.2.1)), Sg.c (CV.f (FV.i IntKind.i64 d.2.2.2.1)),
          Sg.c (CV.f (FV.i IntKind.i64 d.2.2.2.2.1)), Sg.c (CV.f (FV.i IntKind.i64 d.2.2.2.2.2.1)), Sg.c (CV.f (FV.i IntKind.i64 d.2.2.2.2.2.2.1)),
          Sg.c (CV.f (FV.i IntKind.i64 d.2.2.2.2.2.2.2.1))]))
    [Ch.set [Sg.c (CV.f (FV.b d.2.2.2.2.2.2.2.2))]] [])) x0 x1 x2 x3 x4 x5 x6 x7 x8 x9 x10 x11 x12 x13 x14 x15 x16).symm.trans hr1))

def K_downs_New {ρ : Type}   (x0 : Int) (k : (Unit ⊕ Int) → Option ρ) : Option ρ :=
  bif decide (x0 < 1000) then k (Sum.inl ()) else bif decide (x0 > 100000) then k (Sum.inl ()) else k (Sum.inr x0)
def f_downs_New (x0 : Int) : Option (Unit ⊕ Int) := K_downs_New   x0 some
section
open Go.Ab.Rdr
def QA_downs_New := ((pair (cons (ar (rc (cf (fi .i64 hole)))) nil) nil) : Rdr (List AV × List Blk) _)
end
def F_downs_New (f : (Int) → Option (Unit ⊕ Int)) : Sem1 := fun args h => match (QA_downs_New).rd (args, h) with
  | some b => .opt (f b.1.1) fun d0 => T.sum d0 (fun (d : Unit) => .leaf (Res.mk (AV.tup [RV.c CV.nilp, RV.c (CV.f (FV.i IntKind.i64 1))]) [] [])) (fun (d : Int) => .leaf (Res.mk (AV.tup [RV.c (CV.ptr 0 (Off.k 0) 10), RV.c (CV.f (FV.i IntKind.i64 0))]) []
    [[Sg.c (CV.f (FV.i IntKind.i64 d)), Sg.c (CV.f (FV.i IntKind.i64 0)), Sg.c (CV.f (FV.i IntKind.i64 0)), Sg.c (CV.f (FV.i IntKind.i64 0)), Sg.c (CV.f (FV.i IntKind.i64 0)),
        Sg.c (CV.f (FV.i IntKind.i64 0)), Sg.c (CV.f (FV.i IntKind.i64 0)), Sg.c (CV.f (FV.i IntKind.i64 0)), Sg.c (CV.f (FV.i IntKind.i64 0)), Sg.c (CV.f (FV.b false))]]))
  | none => .fail
theorem d_downs_New   (x0 : Int) : den Try.prog (envOf []) ⟨[], [], [], [], none⟩ 200 31 [.r (.c (.f (.i .i64 x0)))] [] =
    K_downs_New   x0 ((Sum.elim (fun (d : Unit) => some (Res.mk (AV.tup [RV.c CV.nilp, RV.c (CV.f (FV.i IntKind.i64 1))]) [] [])) (fun (d : Int) => some (Res.mk (AV.tup [RV.c (CV.ptr 0 (Off.k 0) 10), RV.c (CV.f (FV.i IntKind.i64 0))]) []
    [[Sg.c (CV.f (FV.i IntKind.i64 d)), Sg.c (CV.f (FV.i IntKind.i64 0)), Sg.c (CV.f (FV.i IntKind.i64 0)), Sg.c (CV.f (FV.i IntKind.i64 0)), Sg.c (CV.f (FV.i IntKind.i64 0)),
        Sg.c (CV.f (FV.i IntKind.i64 0)), Sg.c (CV.f (FV.i IntKind.i64 0)), Sg.c (CV.f (FV.i IntKind.i64 0)), Sg.c (CV.f (FV.i IntKind.i64 0)), Sg.c (CV.f (FV.b false))]])))) := by kernel_rfl
theorem m_downs_New {ρ σ : Type} (q : ρ → Option σ)    (x0 : Int) (k : (Unit ⊕ Int) → Option ρ) : (K_downs_New   x0 k).bind q = K_downs_New   x0 (fun d => (k d).bind q) := by
  simp only [K_downs_New, bnd_cond, bnd_bind, bnd_none, bnd_sum]
theorem qa_downs_New : ∀ b, (QA_downs_New).em b = ([.r (.c (.f (.i .i64 b.1.1)))], []) := fun b => by kernel_rfl
theorem e_downs_New {f : (Int) → Option (Unit ⊕ Int)} {args : List AV} {h : List Blk} {r : Res} (hr : (F_downs_New f args h).eval = some r) : ∃ x0, args = [.r (.c (.f (.i .i64 x0)))] ∧ h = [] ∧ (f x0).bind ((Sum.elim (fun (d : Unit) => some (Res.mk (AV.tup [RV.c CV.nilp, RV.c (CV.f (FV.i IntKind.i64 1))]) [] [])) (fun (d : Int) => some (Res.mk (AV.tup [RV.c (CV.ptr 0 (Off.k 0) 10), RV.c (CV.f (FV.i IntKind.i64 0))]) []
    [[Sg.c (CV.f (FV.i IntKind.i64 d)), Sg.c (CV.f (FV.i IntKind.i64 0)), Sg.c (CV.f (FV.i IntKind.i64 0)), Sg.c (CV.f (FV.i IntKind.i64 0)), Sg.c (CV.f (FV.i IntKind.i64 0)),
        Sg.c (CV.f (FV.i IntKind.i64 0)), Sg.c (CV.f (FV.i IntKind.i64 0)), Sg.c (CV.f (FV.i IntKind.i64 0)), Sg.c (CV.f (FV.i IntKind.i64 0)), Sg.c (CV.f (FV.b false))]])))) = some r := by
  unfold F_downs_New at hr
  split at hr
  · rename_i b hb
    have e := ((QA_downs_New).ok _ _ hb).trans (qa_downs_New b)
    rw [opt_eval2] at hr
    simp only [sum_eval, leaf_eval] at hr
    exact ⟨b.1.1, (Prod.mk.inj e).1, (Prod.mk.inj e).2, hr⟩
  · cases hr
theorem n_downs_New {σ : Type} (q : (Unit ⊕ Int) → Option σ) (x0 : Int) : (f_downs_New x0).bind q = K_downs_New   x0 q := by
  unfold f_downs_New
  exact m_downs_New q    x0 some
theorem s_downs_New : Sound Try.prog 31 (F_downs_New f_downs_New) :=
  (inl_sound (l := []) (.nil _) mixed [] [] 200 (by kernel_rfl)).by (F := F_downs_New f_downs_New) fun args b r hr => by
  obtain ⟨x0, rfl, rfl, hr1⟩ := e_downs_New hr
  exact inl_eval ((d_downs_New   x0).trans ((n_downs_New ((Sum.elim (fun (d : Unit) => some (Res.mk (AV.tup [RV.c CV.nilp, RV.c (CV.f (FV.i IntKind.i64 1))]) [] [])) (fun (d : Int) => some (Res.mk (AV.tup [RV.c (CV.ptr 0 (Off.k 0) 10), RV.c (CV.f (FV.i IntKind.i64 0))]) []
    [[Sg.c (CV.f (FV.i IntKind.i64 d)), Sg.c (CV.f (FV.i IntKind.i64 0)), Sg.c (CV.f (FV.i IntKind.i64 0)), Sg.c (CV.f (FV.i IntKind.i64 0)), Sg.c (CV.f (FV.i IntKind.i64 0)),
        Sg.c (CV.f (FV.i IntKind.i64 0)), Sg.c (CV.f (FV.i IntKind.i64 0)), Sg.c (CV.f (FV.i IntKind.i64 0)), Sg.c (CV.f (FV.i IntKind.i64 0)), Sg.c (CV.f (FV.b false))]])))) x0).symm.trans hr1))

def K_downs_Good {ρ : Type} (g_fx_Abs : Int → Option Int)  (x0 : Int) (x1 : Int) (x2 : Int) (x3 : Int) (x4 : Int) (x5 : Int) (x6 : Int) (x7 : Int) (k : (Bool) → Option ρ) : Option ρ :=
  Option.bind (g_fx_Abs x2) fun (d : Int) =>
    bif decide (d > 34359738368) then k false
    else
      Option.bind (g_fx_Abs x5) fun (d : Int) =>
        bif decide (d > 34359738368) then k false
        else
          Option.bind (g_fx_Abs x3) fun (d : Int) =>
            bif decide (d > 34359738368) then k false
            else
              Option.bind (g_fx_Abs x6) fun (d : Int) =>
                bif decide (d > 34359738368) then k false
                else
                  Option.bind (g_fx_Abs x4) fun (d : Int) =>
                    bif decide (d > 34359738368) then k false
                    else
                      Option.bind (g_fx_Abs x7) fun (d : Int) =>
                        bif decide (d > 34359738368) then k false
                        else bif decide (x1 ≥ 1) then bif decide (x1 ≤ 100000) then bif decide (x0 ≥ 0) then k (decide (x0 ≤ 1125899906842624)) else k false else k false else k false
def f_downs_Good (x0 : Int) (x1 : Int) (x2 : Int) (x3 : Int) (x4 : Int) (x5 : Int) (x6 : Int) (x7 : Int) : Option (Bool) := K_downs_Good f_fx_Abs  x0 x1 x2 x3 x4 x5 x6 x7 some
section
open Go.Ab.Rdr
def QA_downs_Good := ((pair (cons (ar (ra (cons (gc (cf (fi .i64 hole))) (cons (gc (cf (fi .i64 hole))) (cons (gc (cf (fi .i64 hole))) (cons (gc (cf (fi .i64 hole))) (cons (gc (cf (fi .i64 hole))) (cons (gc (cf (fi .i64 hole))) (cons (gc (cf (fi .i64 hole))) (cons (gc (cf (fi .i64 hole))) nil)))))))))) nil) nil) : Rdr (List AV × List Blk) _)
end
def F_downs_Good (f : (Int) → (Int) → (Int) → (Int) → (Int) → (Int) → (Int) → (Int) → Option (Bool)) : Sem1 := fun args h => match (QA_downs_Good).rd (args, h) with
  | some b => .opt (f b.1.1.1 b.1.1.2.1 b.1.1.2.2.1 b.1.1.2.2.2.1 b.1.1.2.2.2.2.1 b.1.1.2.2.2.2.2.1 b.1.1.2.2.2.2.2.2.1 b.1.1.2.2.2.2.2.2.2.1) fun (d : Bool) => .leaf (Res.mk (AV.r (RV.c (CV.f (FV.b d)))) [] [])
  | none => .fail
theorem d_downs_Good (g_fx_Abs : Int → Option Int)  (x0 : Int) (x1 : Int) (x2 : Int) (x3 : Int) (x4 : Int) (x5 : Int) (x6 : Int) (x7 : Int) : den Try.prog (envOf [(53, F_fx_Abs g_fx_Abs)]) ⟨[⟨2, [0, 2, 5, 6, 7, 9, 10, 11, 12, 20, 21, 22, 23, 24, 25, 29, 30, 34, 35, 39], []⟩], [], [], [], (some ⟨0, [0, 1, 3, 4, 5, 6, 7, 8, 9, 10, 11, 12, 13, 14, 15, 16, 17, 18, 19, 20, 21, 22, 23, 24, 25, 26, 27, 28, 29, 30, 31, 32, 33, 34, 35, 36, 37, 38, 39], []⟩)⟩ 200 34 [.r (.agg [.c (.f (.i .i64 x0)), .c (.f (.i .i64 x1)), .c (.f (.i .i64 x2)), .c (.f (.i .i64 x3)), .c (.f (.i .i64 x4)), .c (.f (.i .i64 x5)), .c (.f (.i .i64 x6)), .c (.f (.i .i64 x7))])] [] =
    K_downs_Good g_fx_Abs  x0 x1 x2 x3 x4 x5 x6 x7 (fun (d : Bool) => some (Res.mk (AV.r (RV.c (CV.f (FV.b d)))) [] [])) := by kernel_rfl
theorem m_downs_Good {ρ σ : Type} (q : ρ → Option σ) (g_fx_Abs : Int → Option Int)   (x0 : Int) (x1 : Int) (x2 : Int) (x3 : Int) (x4 : Int) (x5 : Int) (x6 : Int) (x7 : Int) (k : (Bool) → Option ρ) : (K_downs_Good g_fx_Abs  x0 x1 x2 x3 x4 x5 x6 x7 k).bind q = K_downs_Good g_fx_Abs  x0 x1 x2 x3 x4 x5 x6 x7 (fun d => (k d).bind q) := by
  simp only [K_downs_Good, bnd_cond, bnd_bind, bnd_none, bnd_sum]
theorem qa_downs_Good : ∀ b, (QA_downs_Good).em b = ([.r (.agg [.c (.f (.i .i64 b.1.1.1)), .c (.f (.i .i64 b.1.1.2.1)), .c (.f (.i .i64 b.1.1.2.2.1)), .c (.f (.i .i64 b.1.1.2.2.2.1)), .c (.f (.i .i64 b.1.1.2.2.2.2.1)), .c (.f (.i .i64 b.1.1.2.2.2.2.2.1)), .c (.f (.i .i64 b.1.1.2.2.2.2.2.2.1)), .c (.f (.i .i64 b.1.1.2.2.2.2.2.2.2.1))])], []) := fun b => by kernel_rfl
theorem e_downs_Good {f : (Int) → (Int) → (Int) → (Int) → (Int) → (Int) → (Int) → (Int) → Option (Bool)} {args : List AV} {h : List Blk} {r : Res} (hr : (F_downs_Good f args h).eval = some r) : ∃ x0 x1 x2 x3 x4 x5 x6 x7, args = [.r (.agg [.c (.f (.i .i64 x0)), .c (.f (.i .i64 x1)), .c (.f (.i .i64 x2)), .c (.f (.i .i64 x3)), .c (.f (.i .i64 x4)), .c (.f (.i .i64 x5)), .c (.f (.i .i64 x6)), .c (.f (.i .i64 x7))])] ∧ h = [] ∧ (f x0 x1 x2 x3 x4 x5 x6 x7).bind (fun (d : Bool) => some (Res.mk (AV.r (RV.c (CV.f (FV.b d)))) [] [])) = some r := by
  unfold F_downs_Good at hr
  split at hr
  · rename_i b hb
    have e := ((QA_downs_Good).ok _ _ hb).trans (qa_downs_Good b)
    rw [opt_eval2] at hr
    exact ⟨b.1.1.1, b.1.1.2.1, b.1.1.2.2.1, b.1.1.2.2.2.1, b.1.1.2.2.2.2.1, b.1.1.2.2.2.2.2.1, b.1.1.2.2.2.2.2.2.1, b.1.1.2.2.2.2.2.2.2.1, (Prod.mk.inj e).1, (Prod.mk.inj e).2, hr⟩
  · cases hr
theorem n_downs_Good {σ : Type} (q : (Bool) → Option σ) (x0 : Int) (x1 : Int) (x2 : Int) (x3 : Int) (x4 : Int) (x5 : Int) (x6 : Int) (x7 : Int) : (f_downs_Good x0 x1 x2 x3 x4 x5 x6 x7).bind q = K_downs_Good f_fx_Abs  x0 x1 x2 x3 x4 x5 x6 x7 q := by
  unfold f_downs_Good
  exact m_downs_Good q f_fx_Abs   x0 x1 x2 x3 x4 x5 x6 x7 some
theorem s_downs_Good : Sound Try.prog 34 (F_downs_Good f_downs_Good) :=
  (inl_sums (l := [(53, F_fx_Abs f_fx_Abs)]) (.cons s_fx_Abs (.nil _)) mixed (hs := ⟨[⟨2, [0, 2, 5, 6, 7, 9, 10, 11, 12, 20, 21, 22, 23, 24, 25, 29, 30, 34, 35, 39], []⟩], [], [], [], (some ⟨0, [0, 1, 3, 4, 5, 6, 7, 8, 9, 10, 11, 12, 13, 14, 15, 16, 17, 18, 19, 20, 21, 22, 23, 24, 25, 26, 27, 28, 29, 30, 31, 32, 33, 34, 35, 36, 37, 38, 39], []⟩)⟩) (lf := 200) (Sums.by (l := [loopIn Try.prog 34 2]) (lj := []) (by kernel_rfl) ⟨SumOK.no (by kernel_rfl), trivial⟩ (by kernel_rfl) trivial) (by kernel_rfl)).by (F := F_downs_Good f_downs_Good) fun args b r hr => by
  obtain ⟨x0, x1, x2, x3, x4, x5, x6, x7, rfl, rfl, hr1⟩ := e_downs_Good hr
  exact inl_eval ((d_downs_Good f_fx_Abs  x0 x1 x2 x3 x4 x5 x6 x7).trans ((n_downs_Good (fun (d : Bool) => some (Res.mk (AV.r (RV.c (CV.f (FV.b d)))) [] [])) x0 x1 x2 x3 x4 x5 x6 x7).symm.trans hr1))

def K___downs_Sampler__Put {ρ : Type} (g_downs_Good : Int → Int → Int → Int → Int → Int → Int → Int → Option Bool) (g_downs_plus : Int → Int → Int → Int → Int → Int → Int → Int → Int → Int → Int → Int → Int → Int → Int → Int → Bool → Option (Int × Int × Int × Int × Int × Int × Int × Int × Bool))  (x0 : Int) (x1 : Int) (x2 : Int) (x3 : Int) (x4 : Int) (x5 : Int) (x6 : Int) (x7 : Int) (x8 : Int) (x9 : Int) (x10 : Int) (x11 : Int) (x12 : Int) (x13 : Int) (x14 : Int) (x15 : Int) (x16 : Int) (x17 : Bool) (x18 : Bool) (k : (Int × Int × Int × Int × Int × Int × Int × Int × Bool × Int × Int × Int × Int × Int × Int × Int × Int × Int × Int × Bool × Bool) → Option ρ) : Option ρ :=
  Option.bind (g_downs_Good x0 x1 x2 x3 x4 x5 x6 x7) fun (d : Bool) =>
    bif !d then k (0, 0, 0, 0, 0, 0, 0, 0, false, 1, x8, x9, x10, x11, x12, x13, x14, x15, x16, x17, x18)
    else
      bif x17 then
        bif decide (x0 ≤ x9) then k (0, 0, 0, 0, 0, 0, 0, 0, false, 1, x8, x9, x10, x11, x12, x13, x14, x15, x16, x17, x18)
        else
          Option.bind (g_downs_plus x9 x10 x11 x12 x13 x14 x15 x16 x0 x1 x2 x3 x4 x5 x6 x7 x18) fun (d : Int × Int × Int × Int × Int × Int × Int × Int × Bool) =>
            bif decide (d.2.1 < x8) then
              k
                (0, 0, 0, 0, 0, 0, 0, 0, false, 0, x8, d.1, d.2.1, d.2.2.1, d.2.2.2.1, d.2.2.2.2.1, d.2.2.2.2.2.1, d.2.2.2.2.2.2.1,
                  d.2.2.2.2.2.2.2.1, true, d.2.2.2.2.2.2.2.2)
            else
              k
                (d.1, d.2.1, d.2.2.1, d.2.2.2.1, d.2.2.2.2.1, d.2.2.2.2.2.1, d.2.2.2.2.2.2.1, d.2.2.2.2.2.2.2.1, true, 0, x8, x0,
                  0, 0, 0, 0, 0, 0, 0, true, d.2.2.2.2.2.2.2.2)
      else
        Option.bind (g_downs_plus x9 x10 x11 x12 x13 x14 x15 x16 x0 x1 x2 x3 x4 x5 x6 x7 x18) fun (d : Int × Int × Int × Int × Int × Int × Int × Int × Bool) =>
          bif decide (d.2.1 < x8) then
            k
              (0, 0, 0, 0, 0, 0, 0, 0, false, 0, x8, d.1, d.2.1, d.2.2.1, d.2.2.2.1, d.2.2.2.2.1, d.2.2.2.2.2.1, d.2.2.2.2.2.2.1,
                d.2.2.2.2.2.2.2.1, true, d.2.2.2.2.2.2.2.2)
          else
            k
              (d.1, d.2.1, d.2.2.1, d.2.2.2.1, d.2.2.2.2.1, d.2.2.2.2.2.1, d.2.2.2.2.2.2.1, d.2.2.2.2.2.2.2.1, true, 0, x8, x0, 0,
                0, 0, 0, 0, 0, 0, true, d.2.2.2.2.2.2.2.2)
def f___downs_Sampler__Put (x0 : Int) (x1 : Int) (x2 : Int) (x3 : Int) (x4 : Int) (x5 : Int) (x6 : Int) (x7 : Int) (x8 : Int) (x9 : Int) (x10 : Int) (x11 : Int) (x12 : Int) (x13 : Int) (x14 : Int) (x15 : Int) (x16 : Int) (x17 : Bool) (x18 : Bool) : Option (Int × Int × Int × Int × Int × Int × Int × Int × Bool × Int × Int × Int × Int × Int × Int × Int × Int × Int × Int × Bool × Bool) := K___downs_Sampler__Put f_downs_Good f_downs_plus  x0 x1 x2 x3 x4 x5 x6 x7 x8 x9 x10 x11 x12 x13 x14 x15 x16 x17 x18 some
section
open Go.Ab.Rdr
def QA___downs_Sampler__Put := ((pair (cons (ar (rc (cptr (nat 0) (ok' (nat 0)) (nat 10)))) (cons (ar (rc (cptr (nat 1) (ok' (nat 0)) (nat 1)))) (cons (ar (ra (cons (gc (cf (fi .i64 hole))) (cons (gc (cf (fi .i64 hole))) (cons (gc (cf (fi .i64 hole))) (cons (gc (cf (fi .i64 hole))) (cons (gc (cf (fi .i64 hole))) (cons (gc (cf (fi .i64 hole))) (cons (gc (cf (fi .i64 hole))) (cons (gc (cf (fi .i64 hole))) nil)))))))))) nil))) (cons (cons (gc (cf (fi .i64 hole))) (cons (gc (cf (fi .i64 hole))) (cons (gc (cf (fi .i64 hole))) (cons (gc (cf (fi .i64 hole))) (cons (gc (cf (fi .i64 hole))) (cons (gc (cf (fi .i64 hole))) (cons (gc (cf (fi .i64 hole))) (cons (gc (cf (fi .i64 hole))) (cons (gc (cf (fi .i64 hole))) (cons (gc (cf (fb hole))) nil)))))))))) (cons (cons (gc (cf (fb hole))) nil) nil))) : Rdr (List AV × List Blk) _)
end
def F___downs_Sampler__Put (f : (Int) → (Int) → (Int) → (Int) → (Int) → (Int) → (Int) → (Int) → (Int) → (Int) → (Int) → (Int) → (Int) → (Int) → (Int) → (Int) → (Int) → (Bool) → (Bool) → Option (Int × Int × Int × Int × Int × Int × Int × Int × Bool × Int × Int × Int × Int × Int × Int × Int × Int × Int × Int × Bool × Bool)) : Sem1 := fun args h => match (QA___downs_Sampler__Put).rd (args, h) with
  | some b => .opt (f b.1.2.2.1.1 b.1.2.2.1.2.1 b.1.2.2.1.2.2.1 b.1.2.2.1.2.2.2.1 b.1.2.2.1.2.2.2.2.1 b.1.2.2.1.2.2.2.2.2.1 b.1.2.2.1.2.2.2.2.2.2.1 b.1.2.2.1.2.2.2.2.2.2.2.1 b.2.1.1 b.2.1.2.1 b.2.1.2.2.1 b.2.1.2.2.2.1 b.2.1.2.2.2.2.1 b.2.1.2.2.2.2.2.1 b.2.1.2.2.2.2.2.2.1 b.2.1.2.2.2.2.2.2.2.1 b.2.1.2.2.2.2.2.2.2.2.1 b.2.1.2.2.2.2.2.2.2.2.2.1 b.2.2.1.1) fun (d : Int × Int × Int × Int × Int × Int × Int × Int × Bool × Int × Int × Int × Int × Int × Int × Int × Int × Int × Int × Bool × Bool) => .leaf (Res.mk
    (AV.tup
      [RV.agg
          [Sg.c (CV.f (FV.i IntKind.i64 d.1)), Sg.c (CV.f (FV.i IntKind.i64 d.2.1)), Sg.c (CV.f (FV.i IntKind.i64 d.2.2.1)), Sg.c (CV.f (FV.i IntKind.i64 d.2.2.2.1)),
            Sg.c (CV.f (FV.i IntKind.i64 d.2.2.2.2.1)), Sg.c (CV.f (FV.i IntKind.i64 d.2.2.2.2.2.1)), Sg.c (CV.f (FV.i IntKind.i64 d.2.2.2.2.2.2.1)),
            Sg.c (CV.f (FV.i IntKind.i64 d.2.2.2.2.2.2.2.1))],
        RV.c (CV.f (FV.b d.2.2.2.2.2.2.2.2.1)), RV.c (CV.f (FV.i IntKind.i64 d.2.2.2.2.2.2.2.2.2.1))])
    [Ch.set
        [Sg.c (CV.f (FV.i IntKind.i64 d.2.2.2.2.2.2.2.2.2.2.1)), Sg.c (CV.f (FV.i IntKind.i64 d.2.2.2.2.2.2.2.2.2.2.2.1)),
          Sg.c (CV.f (FV.i IntKind.i64 d.2.2.2.2.2.2.2.2.2.2.2.2.1)), Sg.c (CV.f (FV.i IntKind.i64 d.2.2.2.2.2.2.2.2.2.2.2.2.2.1)),
          Sg.c (CV.f (FV.i IntKind.i64 d.2.2.2.2.2.2.2.2.2.2.2.2.2.2.1)),
          Sg.c (CV.f (FV.i IntKind.i64 d.2.2.2.2.2.2.2.2.2.2.2.2.2.2.2.1)),
          Sg.c (CV.f (FV.i IntKind.i64 d.2.2.2.2.2.2.2.2.2.2.2.2.2.2.2.2.1)),
          Sg.c (CV.f (FV.i IntKind.i64 d.2.2.2.2.2.2.2.2.2.2.2.2.2.2.2.2.2.1)),
          Sg.c (CV.f (FV.i IntKind.i64 d.2.2.2.2.2.2.2.2.2.2.2.2.2.2.2.2.2.2.1)),
          Sg.c (CV.f (FV.b d.2.2.2.2.2.2.2.2.2.2.2.2.2.2.2.2.2.2.2.1))],
      Ch.set [Sg.c (CV.f (FV.b d.2.2.2.2.2.2.2.2.2.2.2.2.2.2.2.2.2.2.2.2))]]
    [])
  | none => .fail
theorem d___downs_Sampler__Put (g_downs_Good : Int → Int → Int → Int → Int → Int → Int → Int → Option Bool) (g_downs_plus : Int → Int → Int → Int → Int → Int → Int → Int → Int → Int → Int → Int → Int → Int → Int → Int → Bool → Option (Int × Int × Int × Int × Int × Int × Int × Int × Bool))  (x0 : Int) (x1 : Int) (x2 : Int) (x3 : Int) (x4 : Int) (x5 : Int) (x6 : Int) (x7 : Int) (x8 : Int) (x9 : Int) (x10 : Int) (x11 : Int) (x12 : Int) (x13 : Int) (x14 : Int) (x15 : Int) (x16 : Int) (x17 : Bool) (x18 : Bool) : den Try.prog (envOf [(34, F_downs_Good g_downs_Good), (56, F_downs_plus g_downs_plus)]) ⟨[], [], [0, 1], [], none⟩ 200 32 [.r (.c (.ptr 0 (.k 0) 10)), .r (.c (.ptr 1 (.k 0) 1)), .r (.agg [.c (.f (.i .i64 x0)), .c (.f (.i .i64 x1)), .c (.f (.i .i64 x2)), .c (.f (.i .i64 x3)), .c (.f (.i .i64 x4)), .c (.f (.i .i64 x5)), .c (.f (.i .i64 x6)), .c (.f (.i .i64 x7))])] [[.c (.f (.i .i64 x8)), .c (.f (.i .i64 x9)), .c (.f (.i .i64 x10)), .c (.f (.i .i64 x11)), .c (.f (.i .i64 x12)), .c (.f (.i .i64 x13)), .c (.f (.i .i64 x14)), .c (.f (.i .i64 x15)), .c (.f (.i .i64 x16)), .c (.f (.b x17))], [.c (.f (.b x18))]] =
    K___downs_Sampler__Put g_downs_Good g_downs_plus  x0 x1 x2 x3 x4 x5 x6 x7 x8 x9 x10 x11 x12 x13 x14 x15 x16 x17 x18 (fun (d : Int × Int × Int × Int × Int × Int × Int × Int × Bool × Int × Int × Int × Int × Int × Int × Int × Int × Int × Int × Bool × Bool) => some (Res.mk
    (AV.tup
      [RV.agg
          [Sg.c (CV.f (FV.i IntKind.i64 d.1)), Sg.c (CV.f (FV.i IntKind.i64 d.2.1)), Sg.c (CV.f (FV.i IntKind.i64 d.2.2.1)), Sg.c (CV.f (FV.i IntKind.i64 d.2.2.2.1)),
            Sg.c (CV.f (FV.i IntKind.i64 d.2.2.2.2.1)), Sg.c (CV.f (FV.i IntKind.i64 d.2.2.2.2.2.1)), Sg.c (CV.f (FV.i IntKind.i64 d.2.2.2.2.2.2.1)),
            Sg.c (CV.f (FV.i IntKind.i64 d.2.2.2.2.2.2.2.1))],
        RV.c (CV.f (FV.b d.2.2.2.2.2.2.2.2.1)), RV.c (CV.f (FV.i IntKind.i64 d.2.2.2.2.2.2.2.2.2.1))])
    [Ch.set
        [Sg.c (CV.f (FV.i IntKind.i64 d.2.2.2.2.2.2.2.2.2.2.1)), Sg.c (CV.f (FV.i IntKind.i64 d.2.2.2.2.2.2.2.2.2.2.2.1)),
          Sg.c (CV.f (FV.i IntKind.i64 d.2.2.2.2.2.2.2.2.2.2.2.2.1)), Sg.c (CV.f (FV.i IntKind.i64 d.2.2.2.2.2.2.2.2.2.2.2.2.2.1)),
          Sg.c (CV.f (FV.i IntKind.i64 d.2.2.2.2.2.2.2.2.2.2.2.2.2.2.1)),
          Sg.c (CV.f (FV.i IntKind.i64 d.2.2.2.2.2.2.2.2.2.2.2.2.2.2.2.1)),
          Sg.c (CV.f (FV.i IntKind.i64 d.2.2.2.2.2.2.2.2.2.2.2.2.2.2.2.2.1)),
          Sg.c (CV.f (FV.i IntKind.i64 d.2.2.2.2.2.2.2.2.2.2.2.2.2.2.2.2.2.1)),
          Sg.c (CV.f (FV.i IntKind.i64 d.2.2.2.2.2.2.2.2.2.2.2.2.2.2.2.2.2.2.1)),
          Sg.c (CV.f (FV.b d.2.2.2.2.2.2.2.2.2.2.2.2.2.2.2.2.2.2.2.1))],
      Ch.set [Sg.c (CV.f (FV.b d.2.2.2.2.2.2.2.2.2.2.2.2.2.2.2.2.2.2.2.2))]]
    [])) := by kernel_rfl
theorem m___downs_Sampler__Put {ρ σ : Type} (q : ρ → Option σ) (g_downs_Good : Int → Int → Int → Int → Int → Int → Int → Int → Option Bool) (g_downs_plus : Int → Int → Int → Int → Int → Int → Int → Int → Int → Int → Int → Int → Int → Int → Int → Int → Bool → Option (Int × Int × Int × Int × Int × Int × Int × Int × Bool))   (x0 : Int) (x1 : Int) (x2 : Int) (x3 : Int) (x4 : Int) (x5 : Int) (x6 : Int) (x7 : Int) (x8 : Int) (x9 : Int) (x10 : Int) (x11 : Int) (x12 : Int) (x13 : Int) (x14 : Int) (x15 : Int) (x16 : Int) (x17 : Bool) (x18 : Bool) (k : (Int × Int × Int × Int × Int × Int × Int × Int × Bool × Int × Int × Int × Int × Int × Int × Int × Int × Int × Int × Bool × Bool) → Option ρ) : (K___downs_Sampler__Put g_downs_Good g_downs_plus  x0 x1 x2 x3 x4 x5 x6 x7 x8 x9 x10 x11 x12 x13 x14 x15 x16 x17 x18 k).bind q = K___downs_Sampler__Put g_downs_Good g_downs_plus  x0 x1 x2 x3 x4 x5 x6 x7 x8 x9 x10 x11 x12 x13 x14 x15 x16 x17 x18 (fun d => (k d).bind q) := by
  simp only [K___downs_Sampler__Put, bnd_cond, bnd_bind, bnd_none, bnd_sum]
theorem qa___downs_Sampler__Put : ∀ b, (QA___downs_Sampler__Put).em b = ([.r (.c (.ptr 0 (.k 0) 10)), .r (.c (.ptr 1 (.k 0) 1)), .r (.agg [.c (.f (.i .i64 b.1.2.2.1.1)), .c (.f (.i .i64 b.1.2.2.1.2.1)), .c (.f (.i .i64 b.1.2.2.1.2.2.1)), .c (.f (.i .i64 b.1.2.2.1.2.2.2.1)), .c (.f (.i .i64 b.1.2.2.1.2.2.2.2.1)), .c (.f (.i .i64 b.1.2.2.1.2.2.2.2.2.1)), .c (.f (.i .i64 b.1.2.2.1.2.2.2.2.2.2.1)), .c (.f (.i .i64 b.1.2.2.1.2.2.2.2.2.2.2.1))])], [[.c (.f (.i .i64 b.2.1.1)), .c (.f (.i .i64 b.2.1.2.1)), .c (.f (.i .i64 b.2.1.2.2.1)), .c (.f (.i .i64 b.2.1.2.2.2.1)), .c (.f (.i .i64 b.2.1.2.2.2.2.1)), .c (.f (.i .i64 b.2.1.2.2.2.2.2.1)), .c (.f (.i .i64 b.2.1.2.2.2.2.2.2.1)), .c (.f (.i .i64 b.2.1.2.2.2.2.2.2.2.1)), .c (.f (.i .i64 b.2.1.2.2.2.2.2.2.2.2.1)), .c (.f (.b b.2.1.2.2.2.2.2.2.2.2.2.1))], [.c (.f (.b b.2.2.1.1))]]) := fun b => by kernel_rfl
theorem e___downs_Sampler__Put {f : (Int) → (Int) → (Int) → (Int) → (Int) → (Int) → (Int) → (Int) → (Int) → (Int) → (Int) → (Int) → (Int) → (Int) → (Int) → (Int) → (Int) → (Bool) → (Bool) → Option (Int × Int × Int × Int × Int × Int × Int × Int × Bool × Int × Int × Int × Int × Int × Int × Int × Int × Int × Int × Bool × Bool)} {args : List AV} {h : List Blk} {r : Res} (hr : (F___downs_Sampler__Put f args h).eval = some r) : ∃ x0 x1 x2 x3 x4 x5 x6 x7 x8 x9 x10 x11 x12 x13 x14 x15 x16 x17 x18, args = [.r (.c (.ptr 0 (.k 0) 10)), .r (.c (.ptr 1 (.k 0) 1)), .r (.agg [.c (.f (.i .i64 x0)), .c (.f (.i .i64 x1)), .c (.f (.i .i64 x2)), .c (.f (.i .i64 x3)), .c (.f (.i .i64 x4)), .c (.f (.i .i64 x5)), .c (.f (.i .i64 x6)), .c (.f (.i .i64 x7))])] ∧ h = [[.c (.f (.i .i64 x8)), .c (.f (.i .i64 x9)), .c (.f (.i .i64 x10)), .c (.f (.i .i64 x11)), .c (.f (.i .i64 x12)), .c (.f (.i .i64 x13)), .c (.f (.i .i64 x14)), .c (.f (.i .i64 x15)), .c (.f (.i .i64 x16)), .c (.f (.b x17))], [.c (.f (.b x18))]] ∧ (f x0 x1 x2 x3 x4 x5 x6 x7 x8 x9 x10 x11 x12 x13 x14 x15 x16 x17 x18).bind (fun (d : Int × Int × Int × Int × Int × Int × Int × Int × Bool × Int × Int × Int × Int × Int × Int × Int × Int × Int × Int × Bool × Bool) => some (Res.mk
    (AV.tup
      [RV.agg
          [Sg.c (CV.f (FV.i IntKind.i64 d.1)), Sg.c (CV.f (FV.i IntKind.i64 d.2.1)), Sg.c (CV.f (FV.i IntKind.i64 d.2.2.1)), Sg.c (CV.f (FV.i IntKind.i64 d.2.2.2.1)),
            Sg.c (CV.f (FV.i IntKind.i64 d.2.2.2.2.1)), Sg.c (CV.f (FV.i IntKind.i64 d.2.2.2.2.2.1)), Sg.c (CV.f (FV.i IntKind.i64 d.2.2.2.2.2.2.1)),
            Sg.c (CV.f (FV.i IntKind.i64 d.2.2.2.2.2.2.2.1))],
        RV.c (CV.f (FV.b d.2.2.2.2.2.2.2.2.1)), RV.c (CV.f (FV.i IntKind.i64 d.2.2.2.2.2.2.2.2.2.1))])
    [Ch.set
        [Sg.c (CV.f (FV.i IntKind.i64 d.2.2.2.2.2.2.2.2.2.2.1)), Sg.c (CV.f (FV.i IntKind.i64 d.2.2.2.2.2.2.2.2.2.2.2.1)),
          Sg.c (CV.f (FV.i IntKind.i64 d.2.2.2.2.2.2.2.2.2.2.2.2.1)), Sg.c (CV.f (FV.i IntKind.i64 d.2.2.2.2.2.2.2.2.2.2.2.2.2.1)),
          Sg.c (CV.f (FV.i IntKind.i64 d.2.2.2.2.2.2.2.2.2.2.2.2.2.2.1)),
          Sg.c (CV.f (FV.i IntKind.i64 d.2.2.2.2.2.2.2.2.2.2.2.2.2.2.2.1)),
          Sg.c (CV.f (FV.i IntKind.i64 d.2.2.2.2.2.2.2.2.2.2.2.2.2.2.2.2.1)),
          Sg.c (CV.f (FV.i IntKind.i64 d.2.2.2.2.2.2.2.2.2.2.2.2.2.2.2.2.2.1)),
          Sg.c (CV.f (FV.i IntKind.i64 d.2.2.2.2.2.2.2.2.2.2.2.2.2.2.2.2.2.2.1)),
          Sg.c (CV.f (FV.b d.2.2.2.2.2.2.2.2.2.2.2.2.2.2.2.2.2.2.2.1))],
      Ch.set [Sg.c (CV.f (FV.b d.2.2.2.2.2.2.2.2.2.2.2.2.2.2.2.2.2.2.2.2))]]
    [])) = some r := by
  unfold F___downs_Sampler__Put at hr
  split at hr
  · rename_i b hb
    have e := ((QA___downs_Sampler__Put).ok _ _ hb).trans (qa___downs_Sampler__Put b)
    rw [opt_eval2] at hr
    exact ⟨b.1.2.2.1.1, b.1.2.2.1.2.1, b.1.2.2.1.2.2.1, b.1.2.2.1.2.2.2.1, b.1.2.2.1.2.2.2.2.1, b.1.2.2.1.2.2.2.2.2.1, b.1.2.2.1.2.2.2.2.2.2.1, b.1.2.2.1.2.2.2.2.2.2.2.1, b.2.1.1, b.2.1.2.1, b.2.1.2.2.1, b.2.1.2.2.2.1, b.2.1.2.2.2.2.1, b.2.1.2.2.2.2.2.1, b.2.1.2.2.2.2.2.2.1, b.2.1.2.2.2.2.2.2.2.1, b.2.1.2.2.2.2.2.2.2.2.1, b.2.1.2.2.2.2.2.2.2.2.2.1, b.2.2.1.1, (Prod.mk.inj e).1, (Prod.mk.inj e).2, hr⟩
  · cases hr
theorem n___downs_Sampler__Put {σ : Type} (q : (Int × Int × Int × Int × Int × Int × Int × Int × Bool × Int × Int × Int × Int × Int × Int × Int × Int × Int × Int × Bool × Bool) → Option σ) (x0 : Int) (x1 : Int) (x2 : Int) (x3 : Int) (x4 : Int) (x5 : Int) (x6 : Int) (x7 : Int) (x8 : Int) (x9 : Int) (x10 : Int) (x11 : Int) (x12 : Int) (x13 : Int) (x14 : Int) (x15 : Int) (x16 : Int) (x17 : Bool) (x18 : Bool) : (f___downs_Sampler__Put x0 x1 x2 x3 x4 x5 x6 x7 x8 x9 x10 x11 x12 x13 x14 x15 x16 x17 x18).bind q = K___downs_Sampler__Put f_downs_Good f_downs_plus  x0 x1 x2 x3 x4 x5 x6 x7 x8 x9 x10 x11 x12 x13 x14 x15 x16 x17 x18 q := by
  unfold f___downs_Sampler__Put
  exact m___downs_Sampler__Put q f_downs_Good f_downs_plus   x0 x1 x2 x3 x4 x5 x6 x7 x8 x9 x10 x11 x12 x13 x14 x15 x16 x17 x18 some
theorem s___downs_Sampler__Put : Sound Try.prog 32 (F___downs_Sampler__Put f___downs_Sampler__Put) :=
  (inl_sound (l := [(34, F_downs_Good f_downs_Good), (56, F_downs_plus f_downs_plus)]) (.cons s_downs_Good (.cons s_downs_plus (.nil _))) mixed [] [0, 1] 200 (by kernel_rfl)).by (F := F___downs_Sampler__Put f___downs_Sampler__Put) fun args b r hr => by
  obtain ⟨x0, x1, x2, x3, x4, x5, x6, x7, x8, x9, x10, x11, x12, x13, x14, x15, x16, x17, x18, rfl, rfl, hr1⟩ := e___downs_Sampler__Put hr
  exact inl_eval ((d___downs_Sampler__Put f_downs_Good f_downs_plus  x0 x1 x2 x3 x4 x5 x6 x7 x8 x9 x10 x11 x12 x13 x14 x15 x16 x17 x18).trans ((n___downs_Sampler__Put (fun (d : Int × Int × Int × Int × Int × Int × Int × Int × Bool × Int × Int × Int × Int × Int × Int × Int × Int × Int × Int × Bool × Bool) => some (Res.mk
    (AV.tup
      [RV.agg
          [Sg.c (CV.f (FV.i IntKind.i64 d.1)), Sg.c (CV.f (FV.i IntKind.i64 d.2.1)), Sg.c (CV.f (FV.i IntKind.i64 d.2.2.1)), Sg.c (CV.f (FV.i IntKind.i64 d.2.2.2.1)),
            Sg.c (CV.f (FV.i IntKind.i64 d.2.2.2.2.1)), Sg.c (CV.f (FV.i IntKind.i64 d.2.2.2.2.2.1)), Sg.c (CV.f (FV.i IntKind.i64 d.2.2.2.2.2.2.1)),
            Sg.c (CV.f (FV.i IntKind.i64 d.2.2.2.2.2.2.2.1))],
        RV.c (CV.f (FV.b d.2.2.2.2.2.2.2.2.1)), RV.c (CV.f (FV.i IntKind.i64 d.2.2.2.2.2.2.2.2.2.1))])
    [Ch.set
        [Sg.c (CV.f (FV.i IntKind.i64 d.2.2.2.2.2.2.2.2.2.2.1)), Sg.c (CV.f (FV.i IntKind.i64 d.2.2.2.2.2.2.2.2.2.2.2.1)),
          Sg.c (CV.f (FV.i IntKind.i64 d.2.2.2.2.2.2.2.2.2.2.2.2.1)), Sg.c (CV.f (FV.i IntKind.i64 d.2.2.2.2.2.2.2.2.2.2.2.2.2.1)),
          Sg.c (CV.f (FV.i IntKind.i64 d.2.2.2.2.2.2.2.2.2.2.2.2.2.2.1)),
          Sg.c (CV.f (FV.i IntKind.i64 d.2.2.2.2.2.2.2.2.2.2.2.2.2.2.2.1)),
          Sg.c (CV.f (FV.i IntKind.i64 d.2.2.2.2.2.2.2.2.2.2.2.2.2.2.2.2.1)),
          Sg.c (CV.f (FV.i IntKind.i64 d.2.2.2.2.2.2.2.2.2.2.2.2.2.2.2.2.2.1)),
          Sg.c (CV.f (FV.i IntKind.i64 d.2.2.2.2.2.2.2.2.2.2.2.2.2.2.2.2.2.2.1)),
          Sg.c (CV.f (FV.b d.2.2.2.2.2.2.2.2.2.2.2.2.2.2.2.2.2.2.2.1))],
      Ch.set [Sg.c (CV.f (FV.b d.2.2.2.2.2.2.2.2.2.2.2.2.2.2.2.2.2.2.2.2))]]
    [])) x0 x1 x2 x3 x4 x5 x6 x7 x8 x9 x10 x11 x12 x13 x14 x15 x16 x17 x18).symm.trans hr1))

def K___downs_Sampler__Pending {ρ : Type}   (x0 : Int) (x1 : Int) (x2 : Int) (x3 : Int) (x4 : Int) (x5 : Int) (x6 : Int) (x7 : Int) (x8 : Int) (x9 : Bool) (k : (Int) → Option ρ) : Option ρ :=
  k x2
def f___downs_Sampler__Pending (x0 : Int) (x1 : Int) (x2 : Int) (x3 : Int) (x4 : Int) (x5 : Int) (x6 : Int) (x7 : Int) (x8 : Int) (x9 : Bool) : Option (Int) := K___downs_Sampler__Pending   x0 x1 x2 x3 x4 x5 x6 x7 x8 x9 some
section
open Go.Ab.Rdr
def QA___downs_Sampler__Pending := ((pair (cons (ar (rc (cptr (nat 0) (ok' (nat 0)) (nat 10)))) nil) (cons (cons (gc (cf (fi .i64 hole))) (cons (gc (cf (fi .i64 hole))) (cons (gc (cf (fi .i64 hole))) (cons (gc (cf (fi .i64 hole))) (cons (gc (cf (fi .i64 hole))) (cons (gc (cf (fi .i64 hole))) (cons (gc (cf (fi .i64 hole))) (cons (gc (cf (fi .i64 hole))) (cons (gc (cf (fi .i64 hole))) (cons (gc (cf (fb hole))) nil)))))))))) nil)) : Rdr (List AV × List Blk) _)
end
def F___downs_Sampler__Pending (f : (Int) → (Int) → (Int) → (Int) → (Int) → (Int) → (Int) → (Int) → (Int) → (Bool) → Option (Int)) : Sem1 := fun args h => match (QA___downs_Sampler__Pending).rd (args, h) with
  | some b => .opt (f b.2.1.1 b.2.1.2.1 b.2.1.2.2.1 b.2.1.2.2.2.1 b.2.1.2.2.2.2.1 b.2.1.2.2.2.2.2.1 b.2.1.2.2.2.2.2.2.1 b.2.1.2.2.2.2.2.2.2.1 b.2.1.2.2.2.2.2.2.2.2.1 b.2.1.2.2.2.2.2.2.2.2.2.1) fun (d : Int) => .leaf (Res.mk (AV.r (RV.c (CV.f (FV.i IntKind.i64 d)))) [Ch.keep] [])
  | none => .fail
theorem d___downs_Sampler__Pending   (x0 : Int) (x1 : Int) (x2 : Int) (x3 : Int) (x4 : Int) (x5 : Int) (x6 : Int) (x7 : Int) (x8 : Int) (x9 : Bool) : den Try.prog (envOf []) ⟨[], [], [], [], none⟩ 200 35 [.r (.c (.ptr 0 (.k 0) 10))] [[.c (.f (.i .i64 x0)), .c (.f (.i .i64 x1)), .c (.f (.i .i64 x2)), .c (.f (.i .i64 x3)), .c (.f (.i .i64 x4)), .c (.f (.i .i64 x5)), .c (.f (.i .i64 x6)), .c (.f (.i .i64 x7)), .c (.f (.i .i64 x8)), .c (.f (.b x9))]] =
    K___downs_Sampler__Pending   x0 x1 x2 x3 x4 x5 x6 x7 x8 x9 (fun (d : Int) => some (Res.mk (AV.r (RV.c (CV.f (FV.i IntKind.i64 d)))) [Ch.keep] [])) := by kernel_rfl
theorem m___downs_Sampler__Pending {ρ σ : Type} (q : ρ → Option σ)    (x0 : Int) (x1 : Int) (x2 : Int) (x3 : Int) (x4 : Int) (x5 : Int) (x6 : Int) (x7 : Int) (x8 : Int) (x9 : Bool) (k : (Int) → Option ρ) : (K___downs_Sampler__Pending   x0 x1 x2 x3 x4 x5 x6 x7 x8 x9 k).bind q = K___downs_Sampler__Pending   x0 x1 x2 x3 x4 x5 x6 x7 x8 x9 (fun d => (k d).bind q) := by
  simp only [K___downs_Sampler__Pending, bnd_cond, bnd_bind, bnd_none, bnd_sum]
theorem qa___downs_Sampler__Pending : ∀ b, (QA___downs_Sampler__Pending).em b = ([.r (.c (.ptr 0 (.k 0) 10))], [[.c (.f (.i .i64 b.2.1.1)), .c (.f (.i .i64 b.2.1.2.1)), .c (.f (.i .i64 b.2.1.2.2.1)), .c (.f (.i .i64 b.2.1.2.2.2.1)), .c (.f (.i .i64 b.2.1.2.2.2.2.1)), .c (.f (.i .i64 b.2.1.2.2.2.2.2.1)), .c (.f (.i .i64 b.2.1.2.2.2.2.2.2.1)), .c (.f (.i .i64 b.2.1.2.2.2.2.2.2.2.1)), .c (.f (.i .i64 b.2.1.2.2.2.2.2.2.2.2.1)), .c (.f (.b b.2.1.2.2.2.2.2.2.2.2.2.1))]]) := fun b => by kernel_rfl
theorem e___downs_Sampler__Pending {f : (Int) → (Int) → (Int) → (Int) → (Int) → (Int) → (Int) → (Int) → (Int) → (Bool) → Option (Int)} {args : List AV} {h : List Blk} {r : Res} (hr : (F___downs_Sampler__Pending f args h).eval = some r) : ∃ x0 x1 x2 x3 x4 x5 x6 x7 x8 x9, args = [.r (.c (.ptr 0 (.k 0) 10))] ∧ h = [[.c (.f (.i .i64 x0)), .c (.f (.i .i64 x1)), .c (.f (.i .i64 x2)), .c (.f (.i .i64 x3)), .c (.f (.i .i64 x4)), .c (.f (.i .i64 x5)), .c (.f (.i .i64 x6)), .c (.f (.i .i64 x7)), .c (.f (.i .i64 x8)), .c (.f (.b x9))]] ∧ (f x0 x1 x2 x3 x4 x5 x6 x7 x8 x9).bind (fun (d : Int) => some (Res.mk (AV.r (RV.c (CV.f (FV.i IntKind.i64 d)))) [Ch.keep] [])) = some r := by
  unfold F___downs_Sampler__Pending at hr
  split at hr
  · rename_i b hb
    have e := ((QA___downs_Sampler__Pending).ok _ _ hb).trans (qa___downs_Sampler__Pending b)
    rw [opt_eval2] at hr
    exact ⟨b.2.1.1, b.2.1.2.1, b.2.1.2.2.1, b.2.1.2.2.2.1, b.2.1.2.2.2.2.1, b.2.1.2.2.2.2.2.1, b.2.1.2.2.2.2.2.2.1, b.2.1.2.2.2.2.2.2.2.1, b.2.1.2.2.2.2.2.2.2.2.1, b.2.1.2.2.2.2.2.2.2.2.2.1, (Prod.mk.inj e).1, (Prod.mk.inj e).2, hr⟩
  · cases hr
theorem n___downs_Sampler__Pending {σ : Type} (q : (Int) → Option σ) (x0 : Int) (x1 : Int) (x2 : Int) (x3 : Int) (x4 : Int) (x5 : Int) (x6 : Int) (x7 : Int) (x8 : Int) (x9 : Bool) : (f___downs_Sampler__Pending x0 x1 x2 x3 x4 x5 x6 x7 x8 x9).bind q = K___downs_Sampler__Pending   x0 x1 x2 x3 x4 x5 x6 x7 x8 x9 q := by
  unfold f___downs_Sampler__Pending
  exact m___downs_Sampler__Pending q    x0 x1 x2 x3 x4 x5 x6 x7 x8 x9 some
theorem s___downs_Sampler__Pending : Sound Try.prog 35 (F___downs_Sampler__Pending f___downs_Sampler__Pending) :=
  (inl_sound (l := []) (.nil _) mixed [] [] 200 (by kernel_rfl)).by (F := F___downs_Sampler__Pending f___downs_Sampler__Pending) fun args b r hr => by
  obtain ⟨x0, x1, x2, x3, x4, x5, x6, x7, x8, x9, rfl, rfl, hr1⟩ := e___downs_Sampler__Pending hr
  exact inl_eval ((d___downs_Sampler__Pending   x0 x1 x2 x3 x4 x5 x6 x7 x8 x9).trans ((n___downs_Sampler__Pending (fun (d : Int) => some (Res.mk (AV.r (RV.c (CV.f (FV.i IntKind.i64 d)))) [Ch.keep] [])) x0 x1 x2 x3 x4 x5 x6 x7 x8 x9).symm.trans hr1))

end Go.Proofs.Ytmlmpcabphgfaaa
