/-
  Contracts by plain functions: astrolaberef4.Add, astrolaberef4.Sub, astrolaberef4.Scale, astrolaberef4.Cross, astrolaberef4.Norm, astrolaberef4.Sat
-/
import Derived.Test.YthbnojedlbeglaaR3
import Derived.Test.YthbnojedlbeglaaR1b
set_option maxRecDepth 100000
set_option maxHeartbeats 4000000
set_option linter.unusedVariables false
namespace Go.Proofs.Ythbnojedlbeglaa
open Go.Ab
def K_astrolaberef4_Add {ρ : Type} (g___astrolaberef2_Acc__Add : Int → Int → Bool → Option (Int × Bool))  (x0 : Int) (x1 : Int) (x2 : Int) (x3 : Int) (x4 : Int) (x5 : Int) (x6 : Bool) (k : (Int × Int × Int × Bool) → Option ρ) : Option ρ :=
  Option.bind (g___astrolaberef2_Acc__Add x0 x3 x6) fun (d : Int × Bool) =>
    Option.bind (g___astrolaberef2_Acc__Add x1 x4 d.2) fun (d_1 : Int × Bool) => Option.bind (g___astrolaberef2_Acc__Add x2 x5 d_1.2) fun (d_2 : Int × Bool) => k (d.1, d_1.1, d_2.1, d_2.2)
def f_astrolaberef4_Add (x0 : Int) (x1 : Int) (x2 : Int) (x3 : Int) (x4 : Int) (x5 : Int) (x6 : Bool) : Option (Int × Int × Int × Bool) := K_astrolaberef4_Add f___astrolaberef2_Acc__Add  x0 x1 x2 x3 x4 x5 x6 some
section
open Go.Ab.Rdr
def QA_astrolaberef4_Add := ((pair (cons (ar (rc (cptr (nat 0) (ok' (nat 0)) (nat 1)))) (cons (ar (ra (cons (gc (cf (fi .i64 hole))) (cons (gc (cf (fi .i64 hole))) (cons (gc (cf (fi .i64 hole))) nil))))) (cons (ar (ra (cons (gc (cf (fi .i64 hole))) (cons (gc (cf (fi .i64 hole))) (cons (gc (cf (fi .i64 hole))) nil))))) nil))) (cons (cons (gc (cf (fb hole))) nil) nil)) : Rdr (List AV × List Blk) _)
end
def F_astrolaberef4_Add (f : (Int) → (Int) → (Int) → (Int) → (Int) → (Int) → (Bool) → Option (Int × Int × Int × Bool)) : Sem1 := fun args h => match (QA_astrolaberef4_Add).rd (args, h) with
  | some b => .opt (f b.1.2.1.1 b.1.2.1.2.1 b.1.2.1.2.2.1 b.1.2.2.1.1 b.1.2.2.1.2.1 b.1.2.2.1.2.2.1 b.2.1.1) fun (d : Int × Int × Int × Bool) => .leaf (Res.mk (AV.r (RV.agg [Sg.c (CV.f (FV.i IntKind.i64 d.1)), Sg.c (CV.f (FV.i IntKind.i64 d.2.1)), Sg.c (CV.f (FV.i IntKind.i64 d.2.2.1))])) [Ch.set [Sg.c (CV.f (FV.b d.2.2.2))]] [])
  | none => .fail
theorem d_astrolaberef4_Add (g___astrolaberef2_Acc__Add : Int → Int → Bool → Option (Int × Bool))  (x0 : Int) (x1 : Int) (x2 : Int) (x3 : Int) (x4 : Int) (x5 : Int) (x6 : Bool) : den Try.prog (envOf [(53, F___astrolaberef2_Acc__Add g___astrolaberef2_Acc__Add)]) ⟨[], [], [], [], none⟩ 200 33 [.r (.c (.ptr 0 (.k 0) 1)), .r (.agg [.c (.f (.i .i64 x0)), .c (.f (.i .i64 x1)), .c (.f (.i .i64 x2))]), .r (.agg [.c (.f (.i .i64 x3)), .c (.f (.i .i64 x4)), .c (.f (.i .i64 x5))])] [[.c (.f (.b x6))]] =
    K_astrolaberef4_Add g___astrolaberef2_Acc__Add  x0 x1 x2 x3 x4 x5 x6 (fun (d : Int × Int × Int × Bool) => some (Res.mk (AV.r (RV.agg [Sg.c (CV.f (FV.i IntKind.i64 d.1)), Sg.c (CV.f (FV.i IntKind.i64 d.2.1)), Sg.c (CV.f (FV.i IntKind.i64 d.2.2.1))])) [Ch.set [Sg.c (CV.f (FV.b d.2.2.2))]] [])) := by kernel_rfl
theorem m_astrolaberef4_Add {ρ σ : Type} (q : ρ → Option σ) (g___astrolaberef2_Acc__Add : Int → Int → Bool → Option (Int × Bool))   (x0 : Int) (x1 : Int) (x2 : Int) (x3 : Int) (x4 : Int) (x5 : Int) (x6 : Bool) (k : (Int × Int × Int × Bool) → Option ρ) : (K_astrolaberef4_Add g___astrolaberef2_Acc__Add  x0 x1 x2 x3 x4 x5 x6 k).bind q = K_astrolaberef4_Add g___astrolaberef2_Acc__Add  x0 x1 x2 x3 x4 x5 x6 (fun d => (k d).bind q) := by
  simp only [K_astrolaberef4_Add, bnd_cond, bnd_bind, bnd_none, bnd_sum]
theorem qa_astrolaberef4_Add : ∀ b, (QA_astrolaberef4_Add).em b = ([.r (.c (.ptr 0 (.k 0) 1)), .r (.agg [.c (.f (.i .i64 b.1.2.1.1)), .c (.f (.i .i64 b.1.2.1.2.1)), .c (.f (.i .i64 b.1.2.1.2.2.1))]), .r (.agg [.c (.f (.i .i64 b.1.2.2.1.1)), .c (.f (.i .i64 b.1.2.2.1.2.1)), .c (.f (.i .i64 b.1.2.2.1.2.2.1))])], [[.c (.f (.b b.2.1.1))]]) := fun b => by kernel_rfl
theorem e_astrolaberef4_Add {f : (Int) → (Int) → (Int) → (Int) → (Int) → (Int) → (Bool) → Option (Int × Int × Int × Bool)} {args : List AV} {h : List Blk} {r : Res} (hr : (F_astrolaberef4_Add f args h).eval = some r) : ∃ x0 x1 x2 x3 x4 x5 x6, args = [.r (.c (.ptr 0 (.k 0) 1)), .r (.agg [.c (.f (.i .i64 x0)), .c (.f (.i .i64 x1)), .c (.f (.i .i64 x2))]), .r (.agg [.c (.f (.i .i64 x3)), .c (.f (.i .i64 x4)), .c (.f (.i .i64 x5))])] ∧ h = [[.c (.f (.b x6))]] ∧ (f x0 x1 x2 x3 x4 x5 x6).bind (fun (d : Int × Int × Int × Bool) => some (Res.mk (AV.r (RV.agg [Sg.c (CV.f (FV.i IntKind.i64 d.1)), Sg.c (CV.f (FV.i IntKind.i64 d.2.1)), Sg.c (CV.f (FV.i IntKind.i64 d.2.2.1))])) [Ch.set [Sg.c (CV.f (FV.b d.2.2.2))]] [])) = some r := by
  unfold F_astrolaberef4_Add at hr
  split at hr
  · rename_i b hb
    have e := ((QA_astrolaberef4_Add).ok _ _ hb).trans (qa_astrolaberef4_Add b)
    rw [opt_eval2] at hr
    exact ⟨b.1.2.1.1, b.1.2.1.2.1, b.1.2.1.2.2.1, b.1.2.2.1.1, b.1.2.2.1.2.1, b.1.2.2.1.2.2.1, b.2.1.1, (Prod.mk.inj e).1, (Prod.mk.inj e).2, hr⟩
  · cases hr
theorem n_astrolaberef4_Add {σ : Type} (q : (Int × Int × Int × Bool) → Option σ) (x0 : Int) (x1 : Int) (x2 : Int) (x3 : Int) (x4 : Int) (x5 : Int) (x6 : Bool) : (f_astrolaberef4_Add x0 x1 x2 x3 x4 x5 x6).bind q = K_astrolaberef4_Add f___astrolaberef2_Acc__Add  x0 x1 x2 x3 x4 x5 x6 q := by
  unfold f_astrolaberef4_Add
  exact m_astrolaberef4_Add q f___astrolaberef2_Acc__Add   x0 x1 x2 x3 x4 x5 x6 some
theorem s_astrolaberef4_Add : Sound Try.prog 33 (F_astrolaberef4_Add f_astrolaberef4_Add) :=
  (inl_sound (l := [(53, F___astrolaberef2_Acc__Add f___astrolaberef2_Acc__Add)]) (.cons s___astrolaberef2_Acc__Add (.nil _)) mixed [] [] 200 (by kernel_rfl)).by (F := F_astrolaberef4_Add f_astrolaberef4_Add) fun args b r hr => by
  obtain ⟨x0, x1, x2, x3, x4, x5, x6, rfl, rfl, hr1⟩ := e_astrolaberef4_Add hr
  exact inl_eval ((d_astrolaberef4_Add f___astrolaberef2_Acc__Add  x0 x1 x2 x3 x4 x5 x6).trans ((n_astrolaberef4_Add (fun (d : Int × Int × Int × Bool) => some (Res.mk (AV.r (RV.agg [Sg.c (CV.f (FV.i IntKind.i64 d.1)), Sg.c (CV.f (FV.i IntKind.i64 d.2.1)), Sg.c (CV.f (FV.i IntKind.i64 d.2.2.1))])) [Ch.set [Sg.c (CV.f (FV.b d.2.2.2))]] [])) x0 x1 x2 x3 x4 x5 x6).symm.trans hr1))

def K_astrolaberef4_Sub {ρ : Type} (g___astrolaberef2_Acc__Sub : Int → Int → Bool → Option (Int × Bool))  (x0 : Int) (x1 : Int) (x2 : Int) (x3 : Int) (x4 : Int) (x5 : Int) (x6 : Bool) (k : (Int × Int × Int × Bool) → Option ρ) : Option ρ :=
  Option.bind (g___astrolaberef2_Acc__Sub x0 x3 x6) fun (d : Int × Bool) =>
    Option.bind (g___astrolaberef2_Acc__Sub x1 x4 d.2) fun (d_1 : Int × Bool) => Option.bind (g___astrolaberef2_Acc__Sub x2 x5 d_1.2) fun (d_2 : Int × Bool) => k (d.1, d_1.1, d_2.1, d_2.2)
def f_astrolaberef4_Sub (x0 : Int) (x1 : Int) (x2 : Int) (x3 : Int) (x4 : Int) (x5 : Int) (x6 : Bool) : Option (Int × Int × Int × Bool) := K_astrolaberef4_Sub f___astrolaberef2_Acc__Sub  x0 x1 x2 x3 x4 x5 x6 some
section
open Go.Ab.Rdr
def QA_astrolaberef4_Sub := ((pair (cons (ar (rc (cptr (nat 0) (ok' (nat 0)) (nat 1)))) (cons (ar (ra (cons (gc (cf (fi .i64 hole))) (cons (gc (cf (fi .i64 hole))) (cons (gc (cf (fi .i64 hole))) nil))))) (cons (ar (ra (cons (gc (cf (fi .i64 hole))) (cons (gc (cf (fi .i64 hole))) (cons (gc (cf (fi .i64 hole))) nil))))) nil))) (cons (cons (gc (cf (fb hole))) nil) nil)) : Rdr (List AV × List Blk) _)
end
def F_astrolaberef4_Sub (f : (Int) → (Int) → (Int) → (Int) → (Int) → (Int) → (Bool) → Option (Int × Int × Int × Bool)) : Sem1 := fun args h => match (QA_astrolaberef4_Sub).rd (args, h) with
  | some b => .opt (f b.1.2.1.1 b.1.2.1.2.1 b.1.2.1.2.2.1 b.1.2.2.1.1 b.1.2.2.1.2.1 b.1.2.2.1.2.2.1 b.2.1.1) fun (d : Int × Int × Int × Bool) => .leaf (Res.mk (AV.r (RV.agg [Sg.c (CV.f (FV.i IntKind.i64 d.1)), Sg.c (CV.f (FV.i IntKind.i64 d.2.1)), Sg.c (CV.f (FV.i IntKind.i64 d.2.2.1))])) [Ch.set [Sg.c (CV.f (FV.b d.2.2.2))]] [])
  | none => .fail
theorem d_astrolaberef4_Sub (g___astrolaberef2_Acc__Sub : Int → Int → Bool → Option (Int × Bool))  (x0 : Int) (x1 : Int) (x2 : Int) (x3 : Int) (x4 : Int) (x5 : Int) (x6 : Bool) : den Try.prog (envOf [(55, F___astrolaberef2_Acc__Sub g___astrolaberef2_Acc__Sub)]) ⟨[], [], [], [], none⟩ 200 35 [.r (.c (.ptr 0 (.k 0) 1)), .r (.agg [.c (.f (.i .i64 x0)), .c (.f (.i .i64 x1)), .c (.f (.i .i64 x2))]), .r (.agg [.c (.f (.i .i64 x3)), .c (.f (.i .i64 x4)), .c (.f (.i .i64 x5))])] [[.c (.f (.b x6))]] =
    K_astrolaberef4_Sub g___astrolaberef2_Acc__Sub  x0 x1 x2 x3 x4 x5 x6 (fun (d : Int × Int × Int × Bool) => some (Res.mk (AV.r (RV.agg [Sg.c (CV.f (FV.i IntKind.i64 d.1)), Sg.c (CV.f (FV.i IntKind.i64 d.2.1)), Sg.c (CV.f (FV.i IntKind.i64 d.2.2.1))])) [Ch.set [Sg.c (CV.f (FV.b d.2.2.2))]] [])) := by kernel_rfl
theorem m_astrolaberef4_Sub {ρ σ : Type} (q : ρ → Option σ) (g___astrolaberef2_Acc__Sub : Int → Int → Bool → Option (Int × Bool))   (x0 : Int) (x1 : Int) (x2 : Int) (x3 : Int) (x4 : Int) (x5 : Int) (x6 : Bool) (k : (Int × Int × Int × Bool) → Option ρ) : (K_astrolaberef4_Sub g___astrolaberef2_Acc__Sub  x0 x1 x2 x3 x4 x5 x6 k).bind q = K_astrolaberef4_Sub g___astrolaberef2_Acc__Sub  x0 x1 x2 x3 x4 x5 x6 (fun d => (k d).bind q) := by
  simp only [K_astrolaberef4_Sub, bnd_cond, bnd_bind, bnd_none, bnd_sum]
theorem qa_astrolaberef4_Sub : ∀ b, (QA_astrolaberef4_Sub).em b = ([.r (.c (.ptr 0 (.k 0) 1)), .r (.agg [.c (.f (.i .i64 b.1.2.1.1)), .c (.f (.i .i64 b.1.2.1.2.1)), .c (.f (.i .i64 b.1.2.1.2.2.1))]), .r (.agg [.c (.f (.i .i64 b.1.2.2.1.1)), .c (.f (.i .i64 b.1.2.2.1.2.1)), .c (.f (.i .i64 b.1.2.2.1.2.2.1))])], [[.c (.f (.b b.2.1.1))]]) := fun b => by kernel_rfl
theorem e_astrolaberef4_Sub {f : (Int) → (Int) → (Int) → (Int) → (Int) → (Int) → (Bool) → Option (Int × Int × Int × Bool)} {args : List AV} {h : List Blk} {r : Res} (hr : (F_astrolaberef4_Sub f args h).eval = some r) : ∃ x0 x1 x2 x3 x4 x5 x6, args = [.r (.c (.ptr 0 (.k 0) 1)), .r (.agg [.c (.f (.i .i64 x0)), .c (.f (.i .i64 x1)), .c (.f (.i .i64 x2))]), .r (.agg [.c (.f (.i .i64 x3)), .c (.f (.i .i64 x4)), .c (.f (.i .i64 x5))])] ∧ h = [[.c (.f (.b x6))]] ∧ (f x0 x1 x2 x3 x4 x5 x6).bind (fun (d : Int × Int × Int × Bool) => some (Res.mk (AV.r (RV.agg [Sg.c (CV.f (FV.i IntKind.i64 d.1)), Sg.c (CV.f (FV.i IntKind.i64 d.2.1)), Sg.c (CV.f (FV.i IntKind.i64 d.2.2.1))])) [Ch.set [Sg.c (CV.f (FV.b d.2.2.2))]] [])) = some r := by
  unfold F_astrolaberef4_Sub at hr
  split at hr
  · rename_i b hb
    have e := ((QA_astrolaberef4_Sub).ok _ _ hb).trans (qa_astrolaberef4_Sub b)
    rw [opt_eval2] at hr
    exact ⟨b.1.2.1.1, b.1.2.1.2.1, b.1.2.1.2.2.1, b.1.2.2.1.1, b.1.2.2.1.2.1, b.1.2.2.1.2.2.1, b.2.1.1, (Prod.mk.inj e).1, (Prod.mk.inj e).2, hr⟩
  · cases hr
theorem n_astrolaberef4_Sub {σ : Type} (q : (Int × Int × Int × Bool) → Option σ) (x0 : Int) (x1 : Int) (x2 : Int) (x3 : Int) (x4 : Int) (x5 : Int) (x6 : Bool) : (f_astrolaberef4_Sub x0 x1 x2 x3 x4 x5 x6).bind q = K_astrolaberef4_Sub f___astrolaberef2_Acc__Sub  x0 x1 x2 x3 x4 x5 x6 q := by
  unfold f_astrolaberef4_Sub
  exact m_astrolaberef4_Sub q f___astrolaberef2_Acc__Sub   x0 x1 x2 x3 x4 x5 x6 some
theorem s_astrolaberef4_Sub : Sound Try.prog 35 (F_astrolaberef4_Sub f_astrolaberef4_Sub) :=
  (inl_sound (l := [(55, F___astrolaberef2_Acc__Sub f___astrolaberef2_Acc__Sub)]) (.cons s___astrolaberef2_Acc__Sub (.nil _)) mixed [] [] 200 (by kernel_rfl)).by (F := F_astrolaberef4_Sub f_astrolaberef4_Sub) fun args b r hr => by
  obtain ⟨x0, x1, x2, x3, x4, x5, x6, rfl, rfl, hr1⟩ := e_astrolaberef4_Sub hr
  exact inl_eval ((d_astrolaberef4_Sub f___astrolaberef2_Acc__Sub  x0 x1 x2 x3 x4 x5 x6).trans ((n_astrolaberef4_Sub (fun (d : Int × Int × Int × Bool) => some (Res.mk (AV.r (RV.agg [Sg.c (CV.f (FV.i IntKind.i64 d.1)), Sg.c (CV.f (FV.i IntKind.i64 d.2.1)), Sg.c (CV.f (FV.i IntKind.i64 d.2.2.1))])) [Ch.set [Sg.c (CV.f (FV.b d.2.2.2))]] [])) x0 x1 x2 x3 x4 x5 x6).symm.trans hr1))

def K_astrolaberef4_Scale {ρ : Type} (g___astrolaberef2_Acc__M : Int → Int → Bool → Option (Int × Bool))  (x0 : Int) (x1 : Int) (x2 : Int) (x3 : Int) (x4 : Bool) (k : (Int × Int × Int × Bool) → Option ρ) : Option ρ :=
  Option.bind (g___astrolaberef2_Acc__M x0 x3 x4) fun (d : Int × Bool) =>
    Option.bind (g___astrolaberef2_Acc__M x1 x3 d.2) fun (d_1 : Int × Bool) => Option.bind (g___astrolaberef2_Acc__M x2 x3 d_1.2) fun (d_2 : Int × Bool) => k (d.1, d_1.1, d_2.1, d_2.2)
def f_astrolaberef4_Scale (x0 : Int) (x1 : Int) (x2 : Int) (x3 : Int) (x4 : Bool) : Option (Int × Int × Int × Bool) := K_astrolaberef4_Scale f___astrolaberef2_Acc__M  x0 x1 x2 x3 x4 some
section
open Go.Ab.Rdr
def QA_astrolaberef4_Scale := ((pair (cons (ar (rc (cptr (nat 0) (ok' (nat 0)) (nat 1)))) (cons (ar (ra (cons (gc (cf (fi .i64 hole))) (cons (gc (cf (fi .i64 hole))) (cons (gc (cf (fi .i64 hole))) nil))))) (cons (ar (rc (cf (fi .i64 hole)))) nil))) (cons (cons (gc (cf (fb hole))) nil) nil)) : Rdr (List AV × List Blk) _)
end
def F_astrolaberef4_Scale (f : (Int) → (Int) → (Int) → (Int) → (Bool) → Option (Int × Int × Int × Bool)) : Sem1 := fun args h => match (QA_astrolaberef4_Scale).rd (args, h) with
  | some b => .opt (f b.1.2.1.1 b.1.2.1.2.1 b.1.2.1.2.2.1 b.1.2.2.1 b.2.1.1) fun (d : Int × Int × Int × Bool) => .leaf (Res.mk (AV.r (RV.agg [Sg.c (CV.f (FV.i IntKind.i64 d.1)), Sg.c (CV.f (FV.i IntKind.i64 d.2.1)), Sg.c (CV.f (FV.i IntKind.i64 d.2.2.1))])) [Ch.set [Sg.c (CV.f (FV.b d.2.2.2))]] [])
  | none => .fail
theorem d_astrolaberef4_Scale (g___astrolaberef2_Acc__M : Int → Int → Bool → Option (Int × Bool))  (x0 : Int) (x1 : Int) (x2 : Int) (x3 : Int) (x4 : Bool) : den Try.prog (envOf [(56, F___astrolaberef2_Acc__M g___astrolaberef2_Acc__M)]) ⟨[], [], [], [], none⟩ 200 37 [.r (.c (.ptr 0 (.k 0) 1)), .r (.agg [.c (.f (.i .i64 x0)), .c (.f (.i .i64 x1)), .c (.f (.i .i64 x2))]), .r (.c (.f (.i .i64 x3)))] [[.c (.f (.b x4))]] =
    K_astrolaberef4_Scale g___astrolaberef2_Acc__M  x0 x1 x2 x3 x4 (fun (d : Int × Int × Int × Bool) => some (Res.mk (AV.r (RV.agg [Sg.c (CV.f (FV.i IntKind.i64 d.1)), Sg.c (CV.f (FV.i IntKind.i64 d.2.1)), Sg.c (CV.f (FV.i IntKind.i64 d.2.2.1))])) [Ch.set [Sg.c (CV.f (FV.b d.2.2.2))]] [])) := by kernel_rfl
theorem m_astrolaberef4_Scale {ρ σ : Type} (q : ρ → Option σ) (g___astrolaberef2_Acc__M : Int → Int → Bool → Option (Int × Bool))   (x0 : Int) (x1 : Int) (x2 : Int) (x3 : Int) (x4 : Bool) (k : (Int × Int × Int × Bool) → Option ρ) : (K_astrolaberef4_Scale g___astrolaberef2_Acc__M  x0 x1 x2 x3 x4 k).bind q = K_astrolaberef4_Scale g___astrolaberef2_Acc__M  x0 x1 x2 x3 x4 (fun d => (k d).bind q) := by
  simp only [K_astrolaberef4_Scale, bnd_cond, bnd_bind, bnd_none, bnd_sum]
theorem qa_astrolaberef4_Scale : ∀ b, (QA_astrolaberef4_Scale).em b = ([.r (.c (.ptr 0 (.k 0) 1)), .r (.agg [.c (.f (.i .i64 b.1.2.1.1)), .c (.f (.i .i64 b.1.2.1.2.1)), .c (.f (.i .i64 b.1.2.1.2.2.1))]), .r (.c (.f (.i .i64 b.1.2.2.1)))], [[.c (.f (.b b.2.1.1))]]) := fun b => by kernel_rfl
theorem e_astrolaberef4_Scale {f : (Int) → (Int) → (Int) → (Int) → (Bool) → Option (Int × Int × Int × Bool)} {args : List AV} {h : List Blk} {r : Res} (hr : (F_astrolaberef4_Scale f args h).eval = some r) : ∃ x0 x1 x2 x3 x4, args = [.r (.c (.ptr 0 (.k 0) 1)), .r (.agg [.c (.f (.i .i64 x0)), .c (.f (.i .i64 x1)), .c (.f (.i .i64 x2))]), .r (.c (.f (.i .i64 x3)))] ∧ h = [[.c (.f (.b x4))]] ∧ (f x0 x1 x2 x3 x4).bind (fun (d : Int × Int × Int × Bool) => some (Res.mk (AV.r (RV.agg [Sg.c (CV.f (FV.i IntKind.i64 d.1)), Sg.c (CV.f (FV.i IntKind.i64 d.2.1)), Sg.c (CV.f (FV.i IntKind.i64 d.2.2.1))])) [Ch.set [Sg.c (CV.f (FV.b d.2.2.2))]] [])) = some r := by
  unfold F_astrolaberef4_Scale at hr
  split at hr
  · rename_i b hb
    have e := ((QA_astrolaberef4_Scale).ok _ _ hb).trans (qa_astrolaberef4_Scale b)
    rw [opt_eval2] at hr
    exact ⟨b.1.2.1.1, b.1.2.1.2.1, b.1.2.1.2.2.1, b.1.2.2.1, b.2.1.1, (Prod.mk.inj e).1, (Prod.mk.inj e).2, hr⟩
  · cases hr
theorem n_astrolaberef4_Scale {σ : Type} (q : (Int × Int × Int × Bool) → Option σ) (x0 : Int) (x1 : Int) (x2 : Int) (x3 : Int) (x4 : Bool) : (f_astrolaberef4_Scale x0 x1 x2 x3 x4).bind q = K_astrolaberef4_Scale f___astrolaberef2_Acc__M  x0 x1 x2 x3 x4 q := by
  unfold f_astrolaberef4_Scale
  exact m_astrolaberef4_Scale q f___astrolaberef2_Acc__M   x0 x1 x2 x3 x4 some
theorem s_astrolaberef4_Scale : Sound Try.prog 37 (F_astrolaberef4_Scale f_astrolaberef4_Scale) :=
  (inl_sound (l := [(56, F___astrolaberef2_Acc__M f___astrolaberef2_Acc__M)]) (.cons s___astrolaberef2_Acc__M (.nil _)) mixed [] [] 200 (by kernel_rfl)).by (F := F_astrolaberef4_Scale f_astrolaberef4_Scale) fun args b r hr => by
  obtain ⟨x0, x1, x2, x3, x4, rfl, rfl, hr1⟩ := e_astrolaberef4_Scale hr
  exact inl_eval ((d_astrolaberef4_Scale f___astrolaberef2_Acc__M  x0 x1 x2 x3 x4).trans ((n_astrolaberef4_Scale (fun (d : Int × Int × Int × Bool) => some (Res.mk (AV.r (RV.agg [Sg.c (CV.f (FV.i IntKind.i64 d.1)), Sg.c (CV.f (FV.i IntKind.i64 d.2.1)), Sg.c (CV.f (FV.i IntKind.i64 d.2.2.1))])) [Ch.set [Sg.c (CV.f (FV.b d.2.2.2))]] [])) x0 x1 x2 x3 x4).symm.trans hr1))

def K_astrolaberef4_Cross {ρ : Type} (g___astrolaberef2_Acc__Neg : Int → Bool → Option (Int × Bool)) (g___astrolaberef2_Acc__Dot : Int → Nat → Nat → Bool → (Nat → Int) → (Nat → Int) → Bool → Bool → Option (Int × Bool))  (x0 : Int) (x1 : Int) (x2 : Int) (x3 : Int) (x4 : Int) (x5 : Int) (x6 : Bool) (k : (Int × Int × Int × Bool) → Option ρ) : Option ρ :=
  Option.bind (g___astrolaberef2_Acc__Neg x2 x6) fun (d : Int × Bool) =>
    Option.bind
      (g___astrolaberef2_Acc__Dot 30 2 2 d.2 (fun (j : Nat) => bif Nat.beq j 1 then d.1 else bif Nat.beq j 0 then x1 else x1)
        (fun (j : Nat) => bif Nat.beq j 1 then x4 else bif Nat.beq j 0 then x5 else x5) true true)
      fun (d : Int × Bool) =>
      Option.bind (g___astrolaberef2_Acc__Neg x0 d.2) fun (d_1 : Int × Bool) =>
        Option.bind
          (g___astrolaberef2_Acc__Dot 30 2 2 d_1.2 (fun (j : Nat) => bif Nat.beq j 1 then d_1.1 else bif Nat.beq j 0 then x2 else x2)
            (fun (j : Nat) => bif Nat.beq j 1 then x5 else bif Nat.beq j 0 then x3 else x3) true true)
          fun (d_2 : Int × Bool) =>
          Option.bind (g___astrolaberef2_Acc__Neg x1 d_2.2) fun (d_3 : Int × Bool) =>
            Option.bind
              (g___astrolaberef2_Acc__Dot 30 2 2 d_3.2 (fun (j : Nat) => bif Nat.beq j 1 then d_3.1 else bif Nat.beq j 0 then x0 else x0)
                (fun (j : Nat) => bif Nat.beq j 1 then x3 else bif Nat.beq j 0 then x4 else x4) true true)
              fun (d_4 : Int × Bool) => k (d.1, d_2.1, d_4.1, d_4.2)
def f_astrolaberef4_Cross (x0 : Int) (x1 : Int) (x2 : Int) (x3 : Int) (x4 : Int) (x5 : Int) (x6 : Bool) : Option (Int × Int × Int × Bool) := K_astrolaberef4_Cross f___astrolaberef2_Acc__Neg f___astrolaberef2_Acc__Dot  x0 x1 x2 x3 x4 x5 x6 some
section
open Go.Ab.Rdr
def QA_astrolaberef4_Cross := ((pair (cons (ar (rc (cptr (nat 0) (ok' (nat 0)) (nat 1)))) (cons (ar (ra (cons (gc (cf (fi .i64 hole))) (cons (gc (cf (fi .i64 hole))) (cons (gc (cf (fi .i64 hole))) nil))))) (cons (ar (ra (cons (gc (cf (fi .i64 hole))) (cons (gc (cf (fi .i64 hole))) (cons (gc (cf (fi .i64 hole))) nil))))) nil))) (cons (cons (gc (cf (fb hole))) nil) nil)) : Rdr (List AV × List Blk) _)
end
def F_astrolaberef4_Cross (f : (Int) → (Int) → (Int) → (Int) → (Int) → (Int) → (Bool) → Option (Int × Int × Int × Bool)) : Sem1 := fun args h => match (QA_astrolaberef4_Cross).rd (args, h) with
  | some b => .opt (f b.1.2.1.1 b.1.2.1.2.1 b.1.2.1.2.2.1 b.1.2.2.1.1 b.1.2.2.1.2.1 b.1.2.2.1.2.2.1 b.2.1.1) fun (d : Int × Int × Int × Bool) => .leaf (Res.mk (AV.r (RV.agg [Sg.c (CV.f (FV.i IntKind.i64 d.1)), Sg.c (CV.f (FV.i IntKind.i64 d.2.1)), Sg.c (CV.f (FV.i IntKind.i64 d.2.2.1))])) [Ch.set [Sg.c (CV.f (FV.b d.2.2.2))]] [])
  | none => .fail
theorem d_astrolaberef4_Cross (g___astrolaberef2_Acc__Neg : Int → Bool → Option (Int × Bool)) (g___astrolaberef2_Acc__Dot : Int → Nat → Nat → Bool → (Nat → Int) → (Nat → Int) → Bool → Bool → Option (Int × Bool))  (x0 : Int) (x1 : Int) (x2 : Int) (x3 : Int) (x4 : Int) (x5 : Int) (x6 : Bool) : den Try.prog (envOf [(63, F___astrolaberef2_Acc__Neg g___astrolaberef2_Acc__Neg), (39, F___astrolaberef2_Acc__Dot g___astrolaberef2_Acc__Dot)]) ⟨[⟨3, [1, 2, 3, 9, 10, 11, 12, 13, 14, 15, 16, 17, 18, 19, 20, 21, 22, 23, 24, 25, 26, 27, 28, 29, 30, 31, 32, 33, 34, 35, 36, 37, 38, 39, 40, 41, 42, 43, 44, 45, 46], []⟩], [], [], [], (some ⟨0, [0, 1, 2, 3, 4, 5, 7, 8, 9, 10, 11, 12, 13, 14, 15, 16, 17, 18, 19, 20, 21, 22, 23, 24, 25, 26, 27, 28, 29, 30, 31, 32, 33, 34, 35, 36, 37, 38, 39, 40, 41, 42, 43, 44, 45, 46], []⟩)⟩ 200 41 [.r (.c (.ptr 0 (.k 0) 1)), .r (.agg [.c (.f (.i .i64 x0)), .c (.f (.i .i64 x1)), .c (.f (.i .i64 x2))]), .r (.agg [.c (.f (.i .i64 x3)), .c (.f (.i .i64 x4)), .c (.f (.i .i64 x5))])] [[.c (.f (.b x6))]] =
    K_astrolaberef4_Cross g___astrolaberef2_Acc__Neg g___astrolaberef2_Acc__Dot  x0 x1 x2 x3 x4 x5 x6 (fun (d : Int × Int × Int × Bool) => some (Res.mk (AV.r (RV.agg [Sg.c (CV.f (FV.i IntKind.i64 d.1)), Sg.c (CV.f (FV.i IntKind.i64 d.2.1)), Sg.c (CV.f (FV.i IntKind.i64 d.2.2.1))])) [Ch.set [Sg.c (CV.f (FV.b d.2.2.2))]] [])) := by kernel_rfl
theorem m_astrolaberef4_Cross {ρ σ : Type} (q : ρ → Option σ) (g___astrolaberef2_Acc__Neg : Int → Bool → Option (Int × Bool)) (g___astrolaberef2_Acc__Dot : Int → Nat → Nat → Bool → (Nat → Int) → (Nat → Int) → Bool → Bool → Option (Int × Bool))   (x0 : Int) (x1 : Int) (x2 : Int) (x3 : Int) (x4 : Int) (x5 : Int) (x6 : Bool) (k : (Int × Int × Int × Bool) → Option ρ) : (K_astrolaberef4_Cross g___astrolaberef2_Acc__Neg g___astrolaberef2_Acc__Dot  x0 x1 x2 x3 x4 x5 x6 k).bind q = K_astrolaberef4_Cross g___astrolaberef2_Acc__Neg g___astrolaberef2_Acc__Dot  x0 x1 x2 x3 x4 x5 x6 (fun d => (k d).bind q) := by
  simp only [K_astrolaberef4_Cross, bnd_cond, bnd_bind, bnd_none, bnd_sum]
theorem qa_astrolaberef4_Cross : ∀ b, (QA_astrolaberef4_Cross).em b = ([.r (.c (.ptr 0 (.k 0) 1)), .r (.agg [.c (.f (.i .i64 b.1.2.1.1)), .c (.f (.i .i64 b.1.2.1.2.1)), .c (.f (.i .i64 b.1.2.1.2.2.1))]), .r (.agg [.c (.f (.i .i64 b.1.2.2.1.1)), .c (.f (.i .i64 b.1.2.2.1.2.1)), .c (.f (.i .i64 b.1.2.2.1.2.2.1))])], [[.c (.f (.b b.2.1.1))]]) := fun b => by kernel_rfl
theorem e_astrolaberef4_Cross {f : (Int) → (Int) → (Int) → (Int) → (Int) → (Int) → (Bool) → Option (Int × Int × Int × Bool)} {args : List AV} {h : List Blk} {r : Res} (hr : (F_astrolaberef4_Cross f args h).eval = some r) : ∃ x0 x1 x2 x3 x4 x5 x6, args = [.r (.c (.ptr 0 (.k 0) 1)), .r (.agg [.c (.f (.i .i64 x0)), .c (.f (.i .i64 x1)), .c (.f (.i .i64 x2))]), .r (.agg [.c (.f (.i .i64 x3)), .c (.f (.i .i64 x4)), .c (.f (.i .i64 x5))])] ∧ h = [[.c (.f (.b x6))]] ∧ (f x0 x1 x2 x3 x4 x5 x6).bind (fun (d : Int × Int × Int × Bool) => some (Res.mk (AV.r (RV.agg [Sg.c (CV.f (FV.i IntKind.i64 d.1)), Sg.c (CV.f (FV.i IntKind.i64 d.2.1)), Sg.c (CV.f (FV.i IntKind.i64 d.2.2.1))])) [Ch.set [Sg.c (CV.f (FV.b d.2.2.2))]] [])) = some r := by
  unfold F_astrolaberef4_Cross at hr
  split at hr
  · rename_i b hb
    have e := ((QA_astrolaberef4_Cross).ok _ _ hb).trans (qa_astrolaberef4_Cross b)
    rw [opt_eval2] at hr
    exact ⟨b.1.2.1.1, b.1.2.1.2.1, b.1.2.1.2.2.1, b.1.2.2.1.1, b.1.2.2.1.2.1, b.1.2.2.1.2.2.1, b.2.1.1, (Prod.mk.inj e).1, (Prod.mk.inj e).2, hr⟩
  · cases hr
theorem n_astrolaberef4_Cross {σ : Type} (q : (Int × Int × Int × Bool) → Option σ) (x0 : Int) (x1 : Int) (x2 : Int) (x3 : Int) (x4 : Int) (x5 : Int) (x6 : Bool) : (f_astrolaberef4_Cross x0 x1 x2 x3 x4 x5 x6).bind q = K_astrolaberef4_Cross f___astrolaberef2_Acc__Neg f___astrolaberef2_Acc__Dot  x0 x1 x2 x3 x4 x5 x6 q := by
  unfold f_astrolaberef4_Cross
  exact m_astrolaberef4_Cross q f___astrolaberef2_Acc__Neg f___astrolaberef2_Acc__Dot   x0 x1 x2 x3 x4 x5 x6 some
theorem s_astrolaberef4_Cross : Sound Try.prog 41 (F_astrolaberef4_Cross f_astrolaberef4_Cross) :=
  (inl_sums (l := [(63, F___astrolaberef2_Acc__Neg f___astrolaberef2_Acc__Neg), (39, F___astrolaberef2_Acc__Dot f___astrolaberef2_Acc__Dot)]) (.cons s___astrolaberef2_Acc__Neg (.cons s___astrolaberef2_Acc__Dot (.nil _))) mixed (hs := ⟨[⟨3, [1, 2, 3, 9, 10, 11, 12, 13, 14, 15, 16, 17, 18, 19, 20, 21, 22, 23, 24, 25, 26, 27, 28, 29, 30, 31, 32, 33, 34, 35, 36, 37, 38, 39, 40, 41, 42, 43, 44, 45, 46], []⟩], [], [], [], (some ⟨0, [0, 1, 2, 3, 4, 5, 7, 8, 9, 10, 11, 12, 13, 14, 15, 16, 17, 18, 19, 20, 21, 22, 23, 24, 25, 26, 27, 28, 29, 30, 31, 32, 33, 34, 35, 36, 37, 38, 39, 40, 41, 42, 43, 44, 45, 46], []⟩)⟩) (lf := 200) (Sums.by (l := [loopIn Try.prog 41 3]) (lj := []) (by kernel_rfl) ⟨SumOK.no (by kernel_rfl), trivial⟩ (by kernel_rfl) trivial) (by kernel_rfl)).by (F := F_astrolaberef4_Cross f_astrolaberef4_Cross) fun args b r hr => by
  obtain ⟨x0, x1, x2, x3, x4, x5, x6, rfl, rfl, hr1⟩ := e_astrolaberef4_Cross hr
  exact inl_eval ((d_astrolaberef4_Cross f___astrolaberef2_Acc__Neg f___astrolaberef2_Acc__Dot  x0 x1 x2 x3 x4 x5 x6).trans ((n_astrolaberef4_Cross (fun (d : Int × Int × Int × Bool) => some (Res.mk (AV.r (RV.agg [Sg.c (CV.f (FV.i IntKind.i64 d.1)), Sg.c (CV.f (FV.i IntKind.i64 d.2.1)), Sg.c (CV.f (FV.i IntKind.i64 d.2.2.1))])) [Ch.set [Sg.c (CV.f (FV.b d.2.2.2))]] [])) x0 x1 x2 x3 x4 x5 x6).symm.trans hr1))

def K_astrolaberef4_Norm {ρ : Type} (g___astrolaberef2_Acc__Hypot : Nat → Bool → (Nat → Int) → Bool → Option (Int × Bool))  (x0 : Int) (x1 : Int) (x2 : Int) (x3 : Bool) (k : (Int × Bool) → Option ρ) : Option ρ :=
  Option.bind (g___astrolaberef2_Acc__Hypot 3 x3 (fun (j : Nat) => bif Nat.beq j 2 then x2 else bif Nat.beq j 1 then x1 else bif Nat.beq j 0 then x0 else x0) true) fun (d : Int × Bool) =>
    k (d.1, d.2)
def f_astrolaberef4_Norm (x0 : Int) (x1 : Int) (x2 : Int) (x3 : Bool) : Option (Int × Bool) := K_astrolaberef4_Norm f___astrolaberef2_Acc__Hypot  x0 x1 x2 x3 some
section
open Go.Ab.Rdr
def QA_astrolaberef4_Norm := ((pair (cons (ar (rc (cptr (nat 0) (ok' (nat 0)) (nat 1)))) (cons (ar (ra (cons (gc (cf (fi .i64 hole))) (cons (gc (cf (fi .i64 hole))) (cons (gc (cf (fi .i64 hole))) nil))))) nil)) (cons (cons (gc (cf (fb hole))) nil) nil)) : Rdr (List AV × List Blk) _)
end
def F_astrolaberef4_Norm (f : (Int) → (Int) → (Int) → (Bool) → Option (Int × Bool)) : Sem1 := fun args h => match (QA_astrolaberef4_Norm).rd (args, h) with
  | some b => .opt (f b.1.2.1.1 b.1.2.1.2.1 b.1.2.1.2.2.1 b.2.1.1) fun (d : Int × Bool) => .leaf (Res.mk (AV.r (RV.c (CV.f (FV.i IntKind.i64 d.1)))) [Ch.set [Sg.c (CV.f (FV.b d.2))]] [])
  | none => .fail
theorem d_astrolaberef4_Norm (g___astrolaberef2_Acc__Hypot : Nat → Bool → (Nat → Int) → Bool → Option (Int × Bool))  (x0 : Int) (x1 : Int) (x2 : Int) (x3 : Bool) : den Try.prog (envOf [(65, F___astrolaberef2_Acc__Hypot g___astrolaberef2_Acc__Hypot)]) ⟨[], [], [], [], none⟩ 200 43 [.r (.c (.ptr 0 (.k 0) 1)), .r (.agg [.c (.f (.i .i64 x0)), .c (.f (.i .i64 x1)), .c (.f (.i .i64 x2))])] [[.c (.f (.b x3))]] =
    K_astrolaberef4_Norm g___astrolaberef2_Acc__Hypot  x0 x1 x2 x3 (fun (d : Int × Bool) => some (Res.mk (AV.r (RV.c (CV.f (FV.i IntKind.i64 d.1)))) [Ch.set [Sg.c (CV.f (FV.b d.2))]] [])) := by kernel_rfl
theorem m_astrolaberef4_Norm {ρ σ : Type} (q : ρ → Option σ) (g___astrolaberef2_Acc__Hypot : Nat → Bool → (Nat → Int) → Bool → Option (Int × Bool))   (x0 : Int) (x1 : Int) (x2 : Int) (x3 : Bool) (k : (Int × Bool) → Option ρ) : (K_astrolaberef4_Norm g___astrolaberef2_Acc__Hypot  x0 x1 x2 x3 k).bind q = K_astrolaberef4_Norm g___astrolaberef2_Acc__Hypot  x0 x1 x2 x3 (fun d => (k d).bind q) := by
  simp only [K_astrolaberef4_Norm, bnd_cond, bnd_bind, bnd_none, bnd_sum]
theorem qa_astrolaberef4_Norm : ∀ b, (QA_astrolaberef4_Norm).em b = ([.r (.c (.ptr 0 (.k 0) 1)), .r (.agg [.c (.f (.i .i64 b.1.2.1.1)), .c (.f (.i .i64 b.1.2.1.2.1)), .c (.f (.i .i64 b.1.2.1.2.2.1))])], [[.c (.f (.b b.2.1.1))]]) := fun b => by kernel_rfl
theorem e_astrolaberef4_Norm {f : (Int) → (Int) → (Int) → (Bool) → Option (Int × Bool)} {args : List AV} {h : List Blk} {r : Res} (hr : (F_astrolaberef4_Norm f args h).eval = some r) : ∃ x0 x1 x2 x3, args = [.r (.c (.ptr 0 (.k 0) 1)), .r (.agg [.c (.f (.i .i64 x0)), .c (.f (.i .i64 x1)), .c (.f (.i .i64 x2))])] ∧ h = [[.c (.f (.b x3))]] ∧ (f x0 x1 x2 x3).bind (fun (d : Int × Bool) => some (Res.mk (AV.r (RV.c (CV.f (FV.i IntKind.i64 d.1)))) [Ch.set [Sg.c (CV.f (FV.b d.2))]] [])) = some r := by
  unfold F_astrolaberef4_Norm at hr
  split at hr
  · rename_i b hb
    have e := ((QA_astrolaberef4_Norm).ok _ _ hb).trans (qa_astrolaberef4_Norm b)
    rw [opt_eval2] at hr
    exact ⟨b.1.2.1.1, b.1.2.1.2.1, b.1.2.1.2.2.1, b.2.1.1, (Prod.mk.inj e).1, (Prod.mk.inj e).2, hr⟩
  · cases hr
theorem n_astrolaberef4_Norm {σ : Type} (q : (Int × Bool) → Option σ) (x0 : Int) (x1 : Int) (x2 : Int) (x3 : Bool) : (f_astrolaberef4_Norm x0 x1 x2 x3).bind q = K_astrolaberef4_Norm f___astrolaberef2_Acc__Hypot  x0 x1 x2 x3 q := by
  unfold f_astrolaberef4_Norm
  exact m_astrolaberef4_Norm q f___astrolaberef2_Acc__Hypot   x0 x1 x2 x3 some
theorem s_astrolaberef4_Norm : Sound Try.prog 43 (F_astrolaberef4_Norm f_astrolaberef4_Norm) :=
  (inl_sound (l := [(65, F___astrolaberef2_Acc__Hypot f___astrolaberef2_Acc__Hypot)]) (.cons s___astrolaberef2_Acc__Hypot (.nil _)) mixed [] [] 200 (by kernel_rfl)).by (F := F_astrolaberef4_Norm f_astrolaberef4_Norm) fun args b r hr => by
  obtain ⟨x0, x1, x2, x3, rfl, rfl, hr1⟩ := e_astrolaberef4_Norm hr
  exact inl_eval ((d_astrolaberef4_Norm f___astrolaberef2_Acc__Hypot  x0 x1 x2 x3).trans ((n_astrolaberef4_Norm (fun (d : Int × Bool) => some (Res.mk (AV.r (RV.c (CV.f (FV.i IntKind.i64 d.1)))) [Ch.set [Sg.c (CV.f (FV.b d.2))]] [])) x0 x1 x2 x3).symm.trans hr1))

def K_astrolaberef4_Sat {ρ : Type} (g___astrolaberef2_Acc__Sat : Int → Bool → Option (Int × Bool))  (x0 : Int) (x1 : Int) (x2 : Int) (x3 : Bool) (k : (Int × Int × Int × Bool) → Option ρ) : Option ρ :=
  Option.bind (g___astrolaberef2_Acc__Sat x0 x3) fun (d : Int × Bool) =>
    Option.bind (g___astrolaberef2_Acc__Sat x1 d.2) fun (d_1 : Int × Bool) => Option.bind (g___astrolaberef2_Acc__Sat x2 d_1.2) fun (d_2 : Int × Bool) => k (d.1, d_1.1, d_2.1, d_2.2)
def f_astrolaberef4_Sat (x0 : Int) (x1 : Int) (x2 : Int) (x3 : Bool) : Option (Int × Int × Int × Bool) := K_astrolaberef4_Sat f___astrolaberef2_Acc__Sat  x0 x1 x2 x3 some
section
open Go.Ab.Rdr
def QA_astrolaberef4_Sat := ((pair (cons (ar (rc (cptr (nat 0) (ok' (nat 0)) (nat 1)))) (cons (ar (ra (cons (gc (cf (fi .i64 hole))) (cons (gc (cf (fi .i64 hole))) (cons (gc (cf (fi .i64 hole))) nil))))) nil)) (cons (cons (gc (cf (fb hole))) nil) nil)) : Rdr (List AV × List Blk) _)
end
def F_astrolaberef4_Sat (f : (Int) → (Int) → (Int) → (Bool) → Option (Int × Int × Int × Bool)) : Sem1 := fun args h => match (QA_astrolaberef4_Sat).rd (args, h) with
  | some b => .opt (f b.1.2.1.1 b.1.2.1.2.1 b.1.2.1.2.2.1 b.2.1.1) fun (d : Int × Int × Int × Bool) => .leaf (Res.mk (AV.r (RV.agg [Sg.c (CV.f (FV.i IntKind.i64 d.1)), Sg.c (CV.f (FV.i IntKind.i64 d.2.1)), Sg.c (CV.f (FV.i IntKind.i64 d.2.2.1))])) [Ch.set [Sg.c (CV.f (FV.b d.2.2.2))]] [])
  | none => .fail
theorem d_astrolaberef4_Sat (g___astrolaberef2_Acc__Sat : Int → Bool → Option (Int × Bool))  (x0 : Int) (x1 : Int) (x2 : Int) (x3 : Bool) : den Try.prog (envOf [(60, F___astrolaberef2_Acc__Sat g___astrolaberef2_Acc__Sat)]) ⟨[], [], [], [], none⟩ 200 44 [.r (.c (.ptr 0 (.k 0) 1)), .r (.agg [.c (.f (.i .i64 x0)), .c (.f (.i .i64 x1)), .c (.f (.i .i64 x2))])] [[.c (.f (.b x3))]] =
    K_astrolaberef4_Sat g___astrolaberef2_Acc__Sat  x0 x1 x2 x3 (fun (d : Int × Int × Int × Bool) => some (Res.mk (AV.r (RV.agg [Sg.c (CV.f (FV.i IntKind.i64 d.1)), Sg.c (CV.f (FV.i IntKind.i64 d.2.1)), Sg.c (CV.f (FV.i IntKind.i64 d.2.2.1))])) [Ch.set [Sg.c (CV.f (FV.b d.2.2.2))]] [])) := by kernel_rfl
theorem m_astrolaberef4_Sat {ρ σ : Type} (q : ρ → Option σ) (g___astrolaberef2_Acc__Sat : Int → Bool → Option (Int × Bool))   (x0 : Int) (x1 : Int) (x2 : Int) (x3 : Bool) (k : (Int × Int × Int × Bool) → Option ρ) : (K_astrolaberef4_Sat g___astrolaberef2_Acc__Sat  x0 x1 x2 x3 k).bind q = K_astrolaberef4_Sat g___astrolaberef2_Acc__Sat  x0 x1 x2 x3 (fun d => (k d).bind q) := by
  simp only [K_astrolaberef4_Sat, bnd_cond, bnd_bind, bnd_none, bnd_sum]
theorem qa_astrolaberef4_Sat : ∀ b, (QA_astrolaberef4_Sat).em b = ([.r (.c (.ptr 0 (.k 0) 1)), .r (.agg [.c (.f (.i .i64 b.1.2.1.1)), .c (.f (.i .i64 b.1.2.1.2.1)), .c (.f (.i .i64 b.1.2.1.2.2.1))])], [[.c (.f (.b b.2.1.1))]]) := fun b => by kernel_rfl
theorem e_astrolaberef4_Sat {f : (Int) → (Int) → (Int) → (Bool) → Option (Int × Int × Int × Bool)} {args : List AV} {h : List Blk} {r : Res} (hr : (F_astrolaberef4_Sat f args h).eval = some r) : ∃ x0 x1 x2 x3, args = [.r (.c (.ptr 0 (.k 0) 1)), .r (.agg [.c (.f (.i .i64 x0)), .c (.f (.i .i64 x1)), .c (.f (.i .i64 x2))])] ∧ h = [[.c (.f (.b x3))]] ∧ (f x0 x1 x2 x3).bind (fun (d : Int × Int × Int × Bool) => some (Res.mk (AV.r (RV.agg [Sg.c (CV.f (FV.i IntKind.i64 d.1)), Sg.c (CV.f (FV.i IntKind.i64 d.2.1)), Sg.c (CV.f (FV.i IntKind.i64 d.2.2.1))])) [Ch.set [Sg.c (CV.f (FV.b d.2.2.2))]] [])) = some r := by
  unfold F_astrolaberef4_Sat at hr
  split at hr
  · rename_i b hb
    have e := ((QA_astrolaberef4_Sat).ok _ _ hb).trans (qa_astrolaberef4_Sat b)
    rw [opt_eval2] at hr
    exact ⟨b.1.2.1.1, b.1.2.1.2.1, b.1.2.1.2.2.1, b.2.1.1, (Prod.mk.inj e).1, (Prod.mk.inj e).2, hr⟩
  · cases hr
theorem n_astrolaberef4_Sat {σ : Type} (q : (Int × Int × Int × Bool) → Option σ) (x0 : Int) (x1 : Int) (x2 : Int) (x3 : Bool) : (f_astrolaberef4_Sat x0 x1 x2 x3).bind q = K_astrolaberef4_Sat f___astrolaberef2_Acc__Sat  x0 x1 x2 x3 q := by
  unfold f_astrolaberef4_Sat
  exact m_astrolaberef4_Sat q f___astrolaberef2_Acc__Sat   x0 x1 x2 x3 some
theorem s_astrolaberef4_Sat : Sound Try.prog 44 (F_astrolaberef4_Sat f_astrolaberef4_Sat) :=
  (inl_sound (l := [(60, F___astrolaberef2_Acc__Sat f___astrolaberef2_Acc__Sat)]) (.cons s___astrolaberef2_Acc__Sat (.nil _)) mixed [] [] 200 (by kernel_rfl)).by (F := F_astrolaberef4_Sat f_astrolaberef4_Sat) fun args b r hr => by
  obtain ⟨x0, x1, x2, x3, rfl, rfl, hr1⟩ := e_astrolaberef4_Sat hr
  exact inl_eval ((d_astrolaberef4_Sat f___astrolaberef2_Acc__Sat  x0 x1 x2 x3).trans ((n_astrolaberef4_Sat (fun (d : Int × Int × Int × Bool) => some (Res.mk (AV.r (RV.agg [Sg.c (CV.f (FV.i IntKind.i64 d.1)), Sg.c (CV.f (FV.i IntKind.i64 d.2.1)), Sg.c (CV.f (FV.i IntKind.i64 d.2.2.1))])) [Ch.set [Sg.c (CV.f (FV.b d.2.2.2))]] [])) x0 x1 x2 x3).symm.trans hr1))

end Go.Proofs.Ythbnojedlbeglaa
