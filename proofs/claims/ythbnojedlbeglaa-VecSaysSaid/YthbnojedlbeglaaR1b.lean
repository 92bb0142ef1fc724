/-
  Contracts by plain functions: (*astrolaberef2.Acc).Add, (*astrolaberef2.Acc).Sub
-/
import Derived.Test.YthbnojedlbeglaaR1
set_option maxRecDepth 100000
set_option maxHeartbeats 4000000
set_option linter.unusedVariables false
namespace Go.Proofs.Ythbnojedlbeglaa
open Go.Ab
def K___astrolaberef2_Acc__Add {ρ : Type} (g___astrolaberef2_Acc__Sat : Int → Bool → Option (Int × Bool))  (x0 : Int) (x1 : Int) (x2 : Bool) (k : (Int × Bool) → Option ρ) : Option ρ :=
  Option.bind (g___astrolaberef2_Acc__Sat x0 x2) fun (d : Int × Bool) =>
    Option.bind (g___astrolaberef2_Acc__Sat x1 d.2) fun (d_1 : Int × Bool) =>
      Option.bind (g___astrolaberef2_Acc__Sat (IntKind.wrap IntKind.i64 (d.1 + d_1.1)) d_1.2) fun (d : Int × Bool) => k (d.1, d.2)
def f___astrolaberef2_Acc__Add (x0 : Int) (x1 : Int) (x2 : Bool) : Option (Int × Bool) := K___astrolaberef2_Acc__Add f___astrolaberef2_Acc__Sat  x0 x1 x2 some
section
open Go.Ab.Rdr
def QA___astrolaberef2_Acc__Add := ((pair (cons (ar (rc (cptr (nat 0) (ok' (nat 0)) (nat 1)))) (cons (ar (rc (cf (fi .i64 hole)))) (cons (ar (rc (cf (fi .i64 hole)))) nil))) (cons (cons (gc (cf (fb hole))) nil) nil)) : Rdr (List AV × List Blk) _)
end
def F___astrolaberef2_Acc__Add (f : (Int) → (Int) → (Bool) → Option (Int × Bool)) : Sem1 := fun args h => match (QA___astrolaberef2_Acc__Add).rd (args, h) with
  | some b => .opt (f b.1.2.1 b.1.2.2.1 b.2.1.1) fun (d : Int × Bool) => .leaf (Res.mk (AV.r (RV.c (CV.f (FV.i IntKind.i64 d.1)))) [Ch.set [Sg.c (CV.f (FV.b d.2))]] [])
  | none => .fail
theorem d___astrolaberef2_Acc__Add (g___astrolaberef2_Acc__Sat : Int → Bool → Option (Int × Bool))  (x0 : Int) (x1 : Int) (x2 : Bool) : den Try.prog (envOf [(60, F___astrolaberef2_Acc__Sat g___astrolaberef2_Acc__Sat)]) ⟨[], [], [], [], none⟩ 200 53 [.r (.c (.ptr 0 (.k 0) 1)), .r (.c (.f (.i .i64 x0))), .r (.c (.f (.i .i64 x1)))] [[.c (.f (.b x2))]] =
    K___astrolaberef2_Acc__Add g___astrolaberef2_Acc__Sat  x0 x1 x2 (fun (d : Int × Bool) => some (Res.mk (AV.r (RV.c (CV.f (FV.i IntKind.i64 d.1)))) [Ch.set [Sg.c (CV.f (FV.b d.2))]] [])) := by kernel_rfl
theorem m___astrolaberef2_Acc__Add {ρ σ : Type} (q : ρ → Option σ) (g___astrolaberef2_Acc__Sat : Int → Bool → Option (Int × Bool))   (x0 : Int) (x1 : Int) (x2 : Bool) (k : (Int × Bool) → Option ρ) : (K___astrolaberef2_Acc__Add g___astrolaberef2_Acc__Sat  x0 x1 x2 k).bind q = K___astrolaberef2_Acc__Add g___astrolaberef2_Acc__Sat  x0 x1 x2 (fun d => (k d).bind q) := by
  simp only [K___astrolaberef2_Acc__Add, bnd_cond, bnd_bind, bnd_none, bnd_sum]
theorem qa___astrolaberef2_Acc__Add : ∀ b, (QA___astrolaberef2_Acc__Add).em b = ([.r (.c (.ptr 0 (.k 0) 1)), .r (.c (.f (.i .i64 b.1.2.1))), .r (.c (.f (.i .i64 b.1.2.2.1)))], [[.c (.f (.b b.2.1.1))]]) := fun b => by kernel_rfl
theorem e___astrolaberef2_Acc__Add {f : (Int) → (Int) → (Bool) → Option (Int × Bool)} {args : List AV} {h : List Blk} {r : Res} (hr : (F___astrolaberef2_Acc__Add f args h).eval = some r) : ∃ x0 x1 x2, args = [.r (.c (.ptr 0 (.k 0) 1)), .r (.c (.f (.i .i64 x0))), .r (.c (.f (.i .i64 x1)))] ∧ h = [[.c (.f (.b x2))]] ∧ (f x0 x1 x2).bind (fun (d : Int × Bool) => some (Res.mk (AV.r (RV.c (CV.f (FV.i IntKind.i64 d.1)))) [Ch.set [Sg.c (CV.f (FV.b d.2))]] [])) = some r := by
  unfold F___astrolaberef2_Acc__Add at hr
  split at hr
  · rename_i b hb
    have e := ((QA___astrolaberef2_Acc__Add).ok _ _ hb).trans (qa___astrolaberef2_Acc__Add b)
    rw [opt_eval2] at hr
    exact ⟨b.1.2.1, b.1.2.2.1, b.2.1.1, (Prod.mk.inj e).1, (Prod.mk.inj e).2, hr⟩
  · cases hr
theorem n___astrolaberef2_Acc__Add {σ : Type} (q : (Int × Bool) → Option σ) (x0 : Int) (x1 : Int) (x2 : Bool) : (f___astrolaberef2_Acc__Add x0 x1 x2).bind q = K___astrolaberef2_Acc__Add f___astrolaberef2_Acc__Sat  x0 x1 x2 q := by
  unfold f___astrolaberef2_Acc__Add
  exact m___astrolaberef2_Acc__Add q f___astrolaberef2_Acc__Sat   x0 x1 x2 some
theorem s___astrolaberef2_Acc__Add : Sound Try.prog 53 (F___astrolaberef2_Acc__Add f___astrolaberef2_Acc__Add) :=
  (inl_sound (l := [(60, F___astrolaberef2_Acc__Sat f___astrolaberef2_Acc__Sat)]) (.cons s___astrolaberef2_Acc__Sat (.nil _)) mixed [] [] 200 (by kernel_rfl)).by (F := F___astrolaberef2_Acc__Add f___astrolaberef2_Acc__Add) fun args b r hr => by
  obtain ⟨x0, x1, x2, rfl, rfl, hr1⟩ := e___astrolaberef2_Acc__Add hr
  exact inl_eval ((d___astrolaberef2_Acc__Add f___astrolaberef2_Acc__Sat  x0 x1 x2).trans ((n___astrolaberef2_Acc__Add (fun (d : Int × Bool) => some (Res.mk (AV.r (RV.c (CV.f (FV.i IntKind.i64 d.1)))) [Ch.set [Sg.c (CV.f (FV.b d.2))]] [])) x0 x1 x2).symm.trans hr1))

def K___astrolaberef2_Acc__Sub {ρ : Type} (g___astrolaberef2_Acc__Sat : Int → Bool → Option (Int × Bool))  (x0 : Int) (x1 : Int) (x2 : Bool) (k : (Int × Bool) → Option ρ) : Option ρ :=
  Option.bind (g___astrolaberef2_Acc__Sat x0 x2) fun (d : Int × Bool) =>
    Option.bind (g___astrolaberef2_Acc__Sat x1 d.2) fun (d_1 : Int × Bool) =>
      Option.bind (g___astrolaberef2_Acc__Sat (IntKind.wrap IntKind.i64 (d.1 - d_1.1)) d_1.2) fun (d : Int × Bool) => k (d.1, d.2)
def f___astrolaberef2_Acc__Sub (x0 : Int) (x1 : Int) (x2 : Bool) : Option (Int × Bool) := K___astrolaberef2_Acc__Sub f___astrolaberef2_Acc__Sat  x0 x1 x2 some
section
open Go.Ab.Rdr
def QA___astrolaberef2_Acc__Sub := ((pair (cons (ar (rc (cptr (nat 0) (ok' (nat 0)) (nat 1)))) (cons (ar (rc (cf (fi .i64 hole)))) (cons (ar (rc (cf (fi .i64 hole)))) nil))) (cons (cons (gc (cf (fb hole))) nil) nil)) : Rdr (List AV × List Blk) _)
end
def F___astrolaberef2_Acc__Sub (f : (Int) → (Int) → (Bool) → Option (Int × Bool)) : Sem1 := fun args h => match (QA___astrolaberef2_Acc__Sub).rd (args, h) with
  | some b => .opt (f b.1.2.1 b.1.2.2.1 b.2.1.1) fun (d : Int × Bool) => .leaf (Res.mk (AV.r (RV.c (CV.f (FV.i IntKind.i64 d.1)))) [Ch.set [Sg.c (CV.f (FV.b d.2))]] [])
  | none => .fail
theorem d___astrolaberef2_Acc__Sub (g___astrolaberef2_Acc__Sat : Int → Bool → Option (Int × Bool))  (x0 : Int) (x1 : Int) (x2 : Bool) : den Try.prog (envOf [(60, F___astrolaberef2_Acc__Sat g___astrolaberef2_Acc__Sat)]) ⟨[], [], [], [], none⟩ 200 55 [.r (.c (.ptr 0 (.k 0) 1)), .r (.c (.f (.i .i64 x0))), .r (.c (.f (.i .i64 x1)))] [[.c (.f (.b x2))]] =
    K___astrolaberef2_Acc__Sub g___astrolaberef2_Acc__Sat  x0 x1 x2 (fun (d : Int × Bool) => some (Res.mk (AV.r (RV.c (CV.f (FV.i IntKind.i64 d.1)))) [Ch.set [Sg.c (CV.f (FV.b d.2))]] [])) := by kernel_rfl
theorem m___astrolaberef2_Acc__Sub {ρ σ : Type} (q : ρ → Option σ) (g___astrolaberef2_Acc__Sat : Int → Bool → Option (Int × Bool))   (x0 : Int) (x1 : Int) (x2 : Bool) (k : (Int × Bool) → Option ρ) : (K___astrolaberef2_Acc__Sub g___astrolaberef2_Acc__Sat  x0 x1 x2 k).bind q = K___astrolaberef2_Acc__Sub g___astrolaberef2_Acc__Sat  x0 x1 x2 (fun d => (k d).bind q) := by
  simp only [K___astrolaberef2_Acc__Sub, bnd_cond, bnd_bind, bnd_none, bnd_sum]
theorem qa___astrolaberef2_Acc__Sub : ∀ b, (QA___astrolaberef2_Acc__Sub).em b = ([.r (.c (.ptr 0 (.k 0) 1)), .r (.c (.f (.i .i64 b.1.2.1))), .r (.c (.f (.i .i64 b.1.2.2.1)))], [[.c (.f (.b b.2.1.1))]]) := fun b => by kernel_rfl
theorem e___astrolaberef2_Acc__Sub {f : (Int) → (Int) → (Bool) → Option (Int × Bool)} {args : List AV} {h : List Blk} {r : Res} (hr : (F___astrolaberef2_Acc__Sub f args h).eval = some r) : ∃ x0 x1 x2, args = [.r (.c (.ptr 0 (.k 0) 1)), .r (.c (.f (.i .i64 x0))), .r (.c (.f (.i .i64 x1)))] ∧ h = [[.c (.f (.b x2))]] ∧ (f x0 x1 x2).bind (fun (d : Int × Bool) => some (Res.mk (AV.r (RV.c (CV.f (FV.i IntKind.i64 d.1)))) [Ch.set [Sg.c (CV.f (FV.b d.2))]] [])) = some r := by
  unfold F___astrolaberef2_Acc__Sub at hr
  split at hr
  · rename_i b hb
    have e := ((QA___astrolaberef2_Acc__Sub).ok _ _ hb).trans (qa___astrolaberef2_Acc__Sub b)
    rw [opt_eval2] at hr
    exact ⟨b.1.2.1, b.1.2.2.1, b.2.1.1, (Prod.mk.inj e).1, (Prod.mk.inj e).2, hr⟩
  · cases hr
theorem n___astrolaberef2_Acc__Sub {σ : Type} (q : (Int × Bool) → Option σ) (x0 : Int) (x1 : Int) (x2 : Bool) : (f___astrolaberef2_Acc__Sub x0 x1 x2).bind q = K___astrolaberef2_Acc__Sub f___astrolaberef2_Acc__Sat  x0 x1 x2 q := by
  unfold f___astrolaberef2_Acc__Sub
  exact m___astrolaberef2_Acc__Sub q f___astrolaberef2_Acc__Sat   x0 x1 x2 some
theorem s___astrolaberef2_Acc__Sub : Sound Try.prog 55 (F___astrolaberef2_Acc__Sub f___astrolaberef2_Acc__Sub) :=
  (inl_sound (l := [(60, F___astrolaberef2_Acc__Sat f___astrolaberef2_Acc__Sat)]) (.cons s___astrolaberef2_Acc__Sat (.nil _)) mixed [] [] 200 (by kernel_rfl)).by (F := F___astrolaberef2_Acc__Sub f___astrolaberef2_Acc__Sub) fun args b r hr => by
  obtain ⟨x0, x1, x2, rfl, rfl, hr1⟩ := e___astrolaberef2_Acc__Sub hr
  exact inl_eval ((d___astrolaberef2_Acc__Sub f___astrolaberef2_Acc__Sat  x0 x1 x2).trans ((n___astrolaberef2_Acc__Sub (fun (d : Int × Bool) => some (Res.mk (AV.r (RV.c (CV.f (FV.i IntKind.i64 d.1)))) [Ch.set [Sg.c (CV.f (FV.b d.2))]] [])) x0 x1 x2).symm.trans hr1))

end Go.Proofs.Ythbnojedlbeglaa
