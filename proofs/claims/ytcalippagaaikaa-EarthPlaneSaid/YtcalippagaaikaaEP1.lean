/-
  Texts put together: Bits W1 W2 VBits C1
-/
import Derived.Test.YtcalippagaaikaaAb
import Derived.Test.YtcalippagaaikaaAbA
import Derived.Test.YtcalippagaaikaaAbS
import Derived.Test.YtcalippagaaikaaAbM
import Derived.Test.YtcalippagaaikaaAbO
import Derived.Test.YtcalippagaaikaaAbP
import Derived.Test.YtcalippagaaikaaAbQ
import Derived.Test.YtcalippagaaikaaAbB
import Derived.Test.YtcalippagaaikaaAbC
import Derived.Test.YtcalippagaaikaaAbD
import Derived.Test.YtcalippagaaikaaAbE
import Derived.Test.YtcalippagaaikaaAbF
import Derived.Test.YtcalippagaaikaaAbG
import Derived.Test.YtcalippagaaikaaAbH
import Derived.Test.YtcalippagaaikaaAbI
import Derived.Test.YtcalippagaaikaaAbJ
import Derived.Test.YtcalippagaaikaaAbK
import Derived.Test.YtcalippagaaikaaAbL
import Derived.Test.YtcalippagaaikaaAbN
import Derived.Test.YtcalippagaaikaaAbR
import Derived.Test.YtcalippagaaikaaAbT
import Derived.Test.YtcalippagaaikaaAbU
import Derived.Test.YtcalippagaaikaaAbV
import Derived.Test.YtcalippagaaikaaAbW
import Derived.Test.YtcalippagaaikaaAbY
import Derived.Test.YtcalippagaaikaaAbZ
import Derived.Test.YtcalippagaaikaaAbNil
import Derived.Test.YtcalippagaaikaaAbLaw
import Derived.Test.YtcalippagaaikaaAbInv
/-
  The carries of math/bits, as they stand in the program.
-/
section
namespace Go.Proofs.Ytcalippagaaikaa
open Go.Ab
theorem s_Add64 : Sound Try.prog 87 (F_carry f_Add64) := carry_of (add64_sound (fn := Try.f87) Try.func87 (by kernel_rfl) (by kernel_rfl) (by kernel_rfl) (by kernel_rfl))
end Go.Proofs.Ytcalippagaaikaa
end
/-
  Contracts by plain functions: (*fx.Acc).Clamp, (*fx.Acc).Sat, wide.Of, wide.add, wide.Add, wide.abs, (wide.big).shl, (wide.big).plus, (wide.big).shr, wide.signed64, wide.Round, fx.sign, (*fx.Acc).end, (*fx.Acc).Add
-/
section
set_option maxRecDepth 100000
set_option maxHeartbeats 4000000
set_option linter.unusedVariables false
namespace Go.Proofs.Ytcalippagaaikaa
open Go.Ab
def K___fx_Acc__Clamp {ρ : Type}   (x0 : Int) (x1 : Int) (x2 : Int) (x3 : Bool) (k : (Int × Bool) → Option ρ) : Option ρ :=
  bif decide (x1 > x2) then k (x1, true) else bif decide (x0 < x1) then k (x1, true) else bif decide (x0 > x2) then k (x2, true) else k (x0, x3)
def f___fx_Acc__Clamp (x0 : Int) (x1 : Int) (x2 : Int) (x3 : Bool) : Option (Int × Bool) := K___fx_Acc__Clamp   x0 x1 x2 x3 some
section
open Go.Ab.Rdr
def QA___fx_Acc__Clamp := ((pair (cons (ar (rc (cptr (nat 0) (ok' (nat 0)) (nat 1)))) (cons (ar (rc (cf (fi .i64 hole)))) (cons (ar (rc (cf (fi .i64 hole)))) (cons (ar (rc (cf (fi .i64 hole)))) nil)))) (cons (cons (gc (cf (fb hole))) nil) nil)) : Rdr (List AV × List Blk) _)
end
def F___fx_Acc__Clamp (f : (Int) → (Int) → (Int) → (Bool) → Option (Int × Bool)) : Sem1 := fun args h => match (QA___fx_Acc__Clamp).rd (args, h) with
  | some b => .opt (f b.1.2.1 b.1.2.2.1 b.1.2.2.2.1 b.2.1.1) fun (d : Int × Bool) => .leaf (Res.mk (AV.r (RV.c (CV.f (FV.i IntKind.i64 d.fst)))) [Ch.set [Sg.c (CV.f (FV.b d.snd))]] [])
  | none => .fail
theorem d___fx_Acc__Clamp   (x0 : Int) (x1 : Int) (x2 : Int) (x3 : Bool) : den Try.prog (envOf []) ⟨[], [], [0], [], none⟩ 200 111 [.r (.c (.ptr 0 (.k 0) 1)), .r (.c (.f (.i .i64 x0))), .r (.c (.f (.i .i64 x1))), .r (.c (.f (.i .i64 x2)))] [[.c (.f (.b x3))]] =
    K___fx_Acc__Clamp   x0 x1 x2 x3 (fun (d : Int × Bool) => some (Res.mk (AV.r (RV.c (CV.f (FV.i IntKind.i64 d.fst)))) [Ch.set [Sg.c (CV.f (FV.b d.snd))]] [])) := by kernel_rfl
theorem m___fx_Acc__Clamp {ρ σ : Type} (q : ρ → Option σ)    (x0 : Int) (x1 : Int) (x2 : Int) (x3 : Bool) (k : (Int × Bool) → Option ρ) : (K___fx_Acc__Clamp   x0 x1 x2 x3 k).bind q = K___fx_Acc__Clamp   x0 x1 x2 x3 (fun d => (k d).bind q) := by
  simp only [K___fx_Acc__Clamp, bnd_cond, bnd_bind, bnd_none, bnd_sum]
theorem qa___fx_Acc__Clamp : ∀ b, (QA___fx_Acc__Clamp).em b = ([.r (.c (.ptr 0 (.k 0) 1)), .r (.c (.f (.i .i64 b.1.2.1))), .r (.c (.f (.i .i64 b.1.2.2.1))), .r (.c (.f (.i .i64 b.1.2.2.2.1)))], [[.c (.f (.b b.2.1.1))]]) := fun b => by kernel_rfl
theorem e___fx_Acc__Clamp {f : (Int) → (Int) → (Int) → (Bool) → Option (Int × Bool)} {args : List AV} {h : List Blk} {r : Res} (hr : (F___fx_Acc__Clamp f args h).eval = some r) : ∃ x0 x1 x2 x3, args = [.r (.c (.ptr 0 (.k 0) 1)), .r (.c (.f (.i .i64 x0))), .r (.c (.f (.i .i64 x1))), .r (.c (.f (.i .i64 x2)))] ∧ h = [[.c (.f (.b x3))]] ∧ (f x0 x1 x2 x3).bind (fun (d : Int × Bool) => some (Res.mk (AV.r (RV.c (CV.f (FV.i IntKind.i64 d.fst)))) [Ch.set [Sg.c (CV.f (FV.b d.snd))]] [])) = some r := by
  unfold F___fx_Acc__Clamp at hr
  split at hr
  · rename_i b hb
    have e := ((QA___fx_Acc__Clamp).ok _ _ hb).trans (qa___fx_Acc__Clamp b)
    rw [opt_eval2] at hr
    exact ⟨b.1.2.1, b.1.2.2.1, b.1.2.2.2.1, b.2.1.1, (Prod.mk.inj e).1, (Prod.mk.inj e).2, hr⟩
  · cases hr
theorem n___fx_Acc__Clamp {σ : Type} (q : (Int × Bool) → Option σ) (x0 : Int) (x1 : Int) (x2 : Int) (x3 : Bool) : (f___fx_Acc__Clamp x0 x1 x2 x3).bind q = K___fx_Acc__Clamp   x0 x1 x2 x3 q := by
  unfold f___fx_Acc__Clamp
  exact m___fx_Acc__Clamp q    x0 x1 x2 x3 some
theorem s___fx_Acc__Clamp : Sound Try.prog 111 (F___fx_Acc__Clamp f___fx_Acc__Clamp) :=
  (inl_sound (l := []) (.nil _) mixed [] [0] 200 (by kernel_rfl)).by (F := F___fx_Acc__Clamp f___fx_Acc__Clamp) fun args b r hr => by
  obtain ⟨x0, x1, x2, x3, rfl, rfl, hr1⟩ := e___fx_Acc__Clamp hr
  exact inl_eval ((d___fx_Acc__Clamp   x0 x1 x2 x3).trans ((n___fx_Acc__Clamp (fun (d : Int × Bool) => some (Res.mk (AV.r (RV.c (CV.f (FV.i IntKind.i64 d.fst)))) [Ch.set [Sg.c (CV.f (FV.b d.snd))]] [])) x0 x1 x2 x3).symm.trans hr1))

def K___fx_Acc__Sat {ρ : Type} (g___fx_Acc__Clamp : Int → Int → Int → Bool → Option (Int × Bool))  (x0 : Int) (x1 : Bool) (k : (Int × Bool) → Option ρ) : Option ρ :=
  Option.bind (g___fx_Acc__Clamp x0 (-1152921504606846976) 1152921504606846976 x1) fun (d : Int × Bool) => k (d.fst, d.snd)
def f___fx_Acc__Sat (x0 : Int) (x1 : Bool) : Option (Int × Bool) := K___fx_Acc__Sat f___fx_Acc__Clamp  x0 x1 some
section
open Go.Ab.Rdr
def QA___fx_Acc__Sat := ((pair (cons (ar (rc (cptr (nat 0) (ok' (nat 0)) (nat 1)))) (cons (ar (rc (cf (fi .i64 hole)))) nil)) (cons (cons (gc (cf (fb hole))) nil) nil)) : Rdr (List AV × List Blk) _)
end
def F___fx_Acc__Sat (f : (Int) → (Bool) → Option (Int × Bool)) : Sem1 := fun args h => match (QA___fx_Acc__Sat).rd (args, h) with
  | some b => .opt (f b.1.2.1 b.2.1.1) fun (d : Int × Bool) => .leaf (Res.mk (AV.r (RV.c (CV.f (FV.i IntKind.i64 d.fst)))) [Ch.set [Sg.c (CV.f (FV.b d.snd))]] [])
  | none => .fail
theorem d___fx_Acc__Sat (g___fx_Acc__Clamp : Int → Int → Int → Bool → Option (Int × Bool))  (x0 : Int) (x1 : Bool) : den Try.prog (envOf [(111, F___fx_Acc__Clamp g___fx_Acc__Clamp)]) ⟨[], [], [], [], none⟩ 200 91 [.r (.c (.ptr 0 (.k 0) 1)), .r (.c (.f (.i .i64 x0)))] [[.c (.f (.b x1))]] =
    K___fx_Acc__Sat g___fx_Acc__Clamp  x0 x1 (fun (d : Int × Bool) => some (Res.mk (AV.r (RV.c (CV.f (FV.i IntKind.i64 d.fst)))) [Ch.set [Sg.c (CV.f (FV.b d.snd))]] [])) := by kernel_rfl
theorem m___fx_Acc__Sat {ρ σ : Type} (q : ρ → Option σ) (g___fx_Acc__Clamp : Int → Int → Int → Bool → Option (Int × Bool))   (x0 : Int) (x1 : Bool) (k : (Int × Bool) → Option ρ) : (K___fx_Acc__Sat g___fx_Acc__Clamp  x0 x1 k).bind q = K___fx_Acc__Sat g___fx_Acc__Clamp  x0 x1 (fun d => (k d).bind q) := by
  simp only [K___fx_Acc__Sat, bnd_cond, bnd_bind, bnd_none, bnd_sum]
theorem qa___fx_Acc__Sat : ∀ b, (QA___fx_Acc__Sat).em b = ([.r (.c (.ptr 0 (.k 0) 1)), .r (.c (.f (.i .i64 b.1.2.1)))], [[.c (.f (.b b.2.1.1))]]) := fun b => by kernel_rfl
theorem e___fx_Acc__Sat {f : (Int) → (Bool) → Option (Int × Bool)} {args : List AV} {h : List Blk} {r : Res} (hr : (F___fx_Acc__Sat f args h).eval = some r) : ∃ x0 x1, args = [.r (.c (.ptr 0 (.k 0) 1)), .r (.c (.f (.i .i64 x0)))] ∧ h = [[.c (.f (.b x1))]] ∧ (f x0 x1).bind (fun (d : Int × Bool) => some (Res.mk (AV.r (RV.c (CV.f (FV.i IntKind.i64 d.fst)))) [Ch.set [Sg.c (CV.f (FV.b d.snd))]] [])) = some r := by
  unfold F___fx_Acc__Sat at hr
  split at hr
  · rename_i b hb
    have e := ((QA___fx_Acc__Sat).ok _ _ hb).trans (qa___fx_Acc__Sat b)
    rw [opt_eval2] at hr
    exact ⟨b.1.2.1, b.2.1.1, (Prod.mk.inj e).1, (Prod.mk.inj e).2, hr⟩
  · cases hr
theorem n___fx_Acc__Sat {σ : Type} (q : (Int × Bool) → Option σ) (x0 : Int) (x1 : Bool) : (f___fx_Acc__Sat x0 x1).bind q = K___fx_Acc__Sat f___fx_Acc__Clamp  x0 x1 q := by
  unfold f___fx_Acc__Sat
  exact m___fx_Acc__Sat q f___fx_Acc__Clamp   x0 x1 some
theorem s___fx_Acc__Sat : Sound Try.prog 91 (F___fx_Acc__Sat f___fx_Acc__Sat) :=
  (inl_sound (l := [(111, F___fx_Acc__Clamp f___fx_Acc__Clamp)]) (.cons s___fx_Acc__Clamp (.nil _)) mixed [] [] 200 (by kernel_rfl)).by (F := F___fx_Acc__Sat f___fx_Acc__Sat) fun args b r hr => by
  obtain ⟨x0, x1, rfl, rfl, hr1⟩ := e___fx_Acc__Sat hr
  exact inl_eval ((d___fx_Acc__Sat f___fx_Acc__Clamp  x0 x1).trans ((n___fx_Acc__Sat (fun (d : Int × Bool) => some (Res.mk (AV.r (RV.c (CV.f (FV.i IntKind.i64 d.fst)))) [Ch.set [Sg.c (CV.f (FV.b d.snd))]] [])) x0 x1).symm.trans hr1))

def K_wide_Of {ρ : Type}   (x0 : Int) (k : (Int × Int) → Option ρ) : Option ρ :=
  k (Int.fdiv x0 9223372036854775808, IntKind.wrap IntKind.u64 x0)
def f_wide_Of (x0 : Int) : Option (Int × Int) := K_wide_Of   x0 some
section
open Go.Ab.Rdr
def QA_wide_Of := ((pair (cons (ar (rc (cf (fi .i64 hole)))) nil) nil) : Rdr (List AV × List Blk) _)
end
def F_wide_Of (f : (Int) → Option (Int × Int)) : Sem1 := fun args h => match (QA_wide_Of).rd (args, h) with
  | some b => .opt (f b.1.1) fun (d : Int × Int) => .leaf (Res.mk (AV.r (RV.agg [Sg.c (CV.f (FV.i IntKind.i64 d.fst)), Sg.c (CV.f (FV.i IntKind.u64 d.snd))])) [] [])
  | none => .fail
theorem d_wide_Of   (x0 : Int) : den Try.prog (envOf []) ⟨[], [], [], [], none⟩ 200 16 [.r (.c (.f (.i .i64 x0)))] [] =
    K_wide_Of   x0 (fun (d : Int × Int) => some (Res.mk (AV.r (RV.agg [Sg.c (CV.f (FV.i IntKind.i64 d.fst)), Sg.c (CV.f (FV.i IntKind.u64 d.snd))])) [] [])) := by kernel_rfl
theorem m_wide_Of {ρ σ : Type} (q : ρ → Option σ)    (x0 : Int) (k : (Int × Int) → Option ρ) : (K_wide_Of   x0 k).bind q = K_wide_Of   x0 (fun d => (k d).bind q) := by
  simp only [K_wide_Of, bnd_cond, bnd_bind, bnd_none, bnd_sum]
theorem qa_wide_Of : ∀ b, (QA_wide_Of).em b = ([.r (.c (.f (.i .i64 b.1.1)))], []) := fun b => by kernel_rfl
theorem e_wide_Of {f : (Int) → Option (Int × Int)} {args : List AV} {h : List Blk} {r : Res} (hr : (F_wide_Of f args h).eval = some r) : ∃ x0, args = [.r (.c (.f (.i .i64 x0)))] ∧ h = [] ∧ (f x0).bind (fun (d : Int × Int) => some (Res.mk (AV.r (RV.agg [Sg.c (CV.f (FV.i IntKind.i64 d.fst)), Sg.c (CV.f (FV.i IntKind.u64 d.snd))])) [] [])) = some r := by
  unfold F_wide_Of at hr
  split at hr
  · rename_i b hb
    have e := ((QA_wide_Of).ok _ _ hb).trans (qa_wide_Of b)
    rw [opt_eval2] at hr
    exact ⟨b.1.1, (Prod.mk.inj e).1, (Prod.mk.inj e).2, hr⟩
  · cases hr
theorem n_wide_Of {σ : Type} (q : (Int × Int) → Option σ) (x0 : Int) : (f_wide_Of x0).bind q = K_wide_Of   x0 q := by
  unfold f_wide_Of
  exact m_wide_Of q    x0 some
theorem s_wide_Of : Sound Try.prog 16 (F_wide_Of f_wide_Of) :=
  (inl_sound (l := []) (.nil _) mixed [] [] 200 (by kernel_rfl)).by (F := F_wide_Of f_wide_Of) fun args b r hr => by
  obtain ⟨x0, rfl, rfl, hr1⟩ := e_wide_Of hr
  exact inl_eval ((d_wide_Of   x0).trans ((n_wide_Of (fun (d : Int × Int) => some (Res.mk (AV.r (RV.agg [Sg.c (CV.f (FV.i IntKind.i64 d.fst)), Sg.c (CV.f (FV.i IntKind.u64 d.snd))])) [] [])) x0).symm.trans hr1))

def K_wide_add {ρ : Type} (g_Add64 : C3)  (x0 : Int) (x1 : Int) (x2 : Int) (x3 : Int) (k : (Int × Int × Bool) → Option ρ) : Option ρ :=
  Option.bind (g_Add64 x1 x3 0) fun (d : Int × Int) =>
    Option.bind (g_Add64 (IntKind.wrap IntKind.u64 x0) (IntKind.wrap IntKind.u64 x2) d.snd) fun (d_1 : Int × Int) =>
      bif !decide (x0 < 0) == decide (x2 < 0) then k (IntKind.wrap IntKind.i64 d_1.fst, d.fst, true)
      else k (IntKind.wrap IntKind.i64 d_1.fst, d.fst, decide (IntKind.wrap IntKind.i64 d_1.fst < 0) == decide (x0 < 0))
def f_wide_add (x0 : Int) (x1 : Int) (x2 : Int) (x3 : Int) : Option (Int × Int × Bool) := K_wide_add f_Add64  x0 x1 x2 x3 some
section
open Go.Ab.Rdr
def QA_wide_add := ((pair (cons (ar (ra (cons (gc (cf (fi .i64 hole))) (cons (gc (cf (fi .u64 hole))) nil)))) (cons (ar (ra (cons (gc (cf (fi .i64 hole))) (cons (gc (cf (fi .u64 hole))) nil)))) nil)) nil) : Rdr (List AV × List Blk) _)
end
def F_wide_add (f : (Int) → (Int) → (Int) → (Int) → Option (Int × Int × Bool)) : Sem1 := fun args h => match (QA_wide_add).rd (args, h) with
  | some b => .opt (f b.1.1.1 b.1.1.2.1 b.1.2.1.1 b.1.2.1.2.1) fun (d : Int × Int × Bool) => .leaf (Res.mk (AV.tup [RV.agg [Sg.c (CV.f (FV.i IntKind.i64 d.fst)), Sg.c (CV.f (FV.i IntKind.u64 d.snd.fst))], RV.c (CV.f (FV.b d.snd.snd))]) [] [])
  | none => .fail
theorem d_wide_add (g_Add64 : C3)  (x0 : Int) (x1 : Int) (x2 : Int) (x3 : Int) : den Try.prog (envOf [(87, F_carry g_Add64)]) ⟨[], [], [], [], none⟩ 200 56 [.r (.agg [.c (.f (.i .i64 x0)), .c (.f (.i .u64 x1))]), .r (.agg [.c (.f (.i .i64 x2)), .c (.f (.i .u64 x3))])] [] =
    K_wide_add g_Add64  x0 x1 x2 x3 (fun (d : Int × Int × Bool) => some (Res.mk (AV.tup [RV.agg [Sg.c (CV.f (FV.i IntKind.i64 d.fst)), Sg.c (CV.f (FV.i IntKind.u64 d.snd.fst))], RV.c (CV.f (FV.b d.snd.snd))]) [] [])) := by kernel_rfl
theorem m_wide_add {ρ σ : Type} (q : ρ → Option σ) (g_Add64 : C3)   (x0 : Int) (x1 : Int) (x2 : Int) (x3 : Int) (k : (Int × Int × Bool) → Option ρ) : (K_wide_add g_Add64  x0 x1 x2 x3 k).bind q = K_wide_add g_Add64  x0 x1 x2 x3 (fun d => (k d).bind q) := by
  simp only [K_wide_add, bnd_cond, bnd_bind, bnd_none, bnd_sum]
theorem qa_wide_add : ∀ b, (QA_wide_add).em b = ([.r (.agg [.c (.f (.i .i64 b.1.1.1)), .c (.f (.i .u64 b.1.1.2.1))]), .r (.agg [.c (.f (.i .i64 b.1.2.1.1)), .c (.f (.i .u64 b.1.2.1.2.1))])], []) := fun b => by kernel_rfl
theorem e_wide_add {f : (Int) → (Int) → (Int) → (Int) → Option (Int × Int × Bool)} {args : List AV} {h : List Blk} {r : Res} (hr : (F_wide_add f args h).eval = some r) : ∃ x0 x1 x2 x3, args = [.r (.agg [.c (.f (.i .i64 x0)), .c (.f (.i .u64 x1))]), .r (.agg [.c (.f (.i .i64 x2)), .c (.f (.i .u64 x3))])] ∧ h = [] ∧ (f x0 x1 x2 x3).bind (fun (d : Int × Int × Bool) => some (Res.mk (AV.tup [RV.agg [Sg.c (CV.f (FV.i IntKind.i64 d.fst)), Sg.c (CV.f (FV.i IntKind.u64 d.snd.fst))], RV.c (CV.f (FV.b d.snd.snd))]) [] [])) = some r := by
  unfold F_wide_add at hr
  split at hr
  · rename_i b hb
    have e := ((QA_wide_add).ok _ _ hb).trans (qa_wide_add b)
    rw [opt_eval2] at hr
    exact ⟨b.1.1.1, b.1.1.2.1, b.1.2.1.1, b.1.2.1.2.1, (Prod.mk.inj e).1, (Prod.mk.inj e).2, hr⟩
  · cases hr
theorem n_wide_add {σ : Type} (q : (Int × Int × Bool) → Option σ) (x0 : Int) (x1 : Int) (x2 : Int) (x3 : Int) : (f_wide_add x0 x1 x2 x3).bind q = K_wide_add f_Add64  x0 x1 x2 x3 q := by
  unfold f_wide_add
  exact m_wide_add q f_Add64   x0 x1 x2 x3 some
theorem s_wide_add : Sound Try.prog 56 (F_wide_add f_wide_add) :=
  (inl_sound (l := [(87, F_carry f_Add64)]) (.cons s_Add64 (.nil _)) mixed [] [] 200 (by kernel_rfl)).by (F := F_wide_add f_wide_add) fun args b r hr => by
  obtain ⟨x0, x1, x2, x3, rfl, rfl, hr1⟩ := e_wide_add hr
  exact inl_eval ((d_wide_add f_Add64  x0 x1 x2 x3).trans ((n_wide_add (fun (d : Int × Int × Bool) => some (Res.mk (AV.tup [RV.agg [Sg.c (CV.f (FV.i IntKind.i64 d.fst)), Sg.c (CV.f (FV.i IntKind.u64 d.snd.fst))], RV.c (CV.f (FV.b d.snd.snd))]) [] [])) x0 x1 x2 x3).symm.trans hr1))

def S_wide_Add_0 {ρ : Type} (g_wide_add : Int → Int → Int → Int → Option (Int × Int × Bool))  (x0 : Nat) (x1 : Bool) (x2 : Int) (x3 : Int) (x4 : Nat) (x5 : Nat → Int) (x6 : Nat → Int) (x7 : Int) (x8 : Int) (c : (Nat × Bool × Int × Int × Nat × (Nat → Int) × (Nat → Int) × Int × Int) → Option ρ) (x : (Bool × Nat × Bool × Int × Int × Bool × Nat × Int × Int × Int × Int × Int × Int × Bool × Nat × (Nat → Int) × (Nat → Int) ⊕ Nat × Bool × Int × Int × Bool × Nat × (Nat → Int) × (Nat → Int) × Int × Int) → Option ρ) : Option ρ :=
  bif decide (x3 < x2) then
    bif inR x3 x0 then
      Option.bind (g_wide_add x7 x8 (x5 (Int.toNat x3)) (x6 (Int.toNat x3))) fun (d : Int × Int × Bool) =>
        bif !d.snd.snd then x (Sum.inl (d.snd.snd, x0, x1, x2, x3, decide (x3 < x2), Int.toNat x3, x5 (Int.toNat x3), x6 (Int.toNat x3), d.fst, d.snd.fst, x7, x8, !d.snd.snd, x4, x5, x6))
        else c (x0, x1, x2, IntKind.wrap IntKind.i64 (x3 + 1), x4, x5, x6, d.fst, d.snd.fst)
    else none
  else x (Sum.inr (x0, x1, x2, x3, decide (x3 < x2), x4, x5, x6, x7, x8))
section
open Go.Ab.Rdr
def Q_wide_Add_0 := (st (cons aund (cons aund (cons (ar (rc (cptr (nat 1) (ok' (nat 0)) (nat 2)))) (cons aund (cons (ar (rc (cptr (nat 2) (ok' (nat 0)) (nat 2)))) (cons aund (cons aund (cons aund (cons aund (cons (ar (rc (csl (nat 0) (ok' (nat 0)) (szs hole) (nat 2) hole))) (cons (ar (rc (cf (fi .i64 hole)))) (cons (ar (rc (cf (fi .i64 hole)))) (cons aund (cons aund (cons aund (cons aund (cons aund (cons aund (cons aund (cons aund (cons aund (cons aund (cons aund (cons aund (cons aund (cons aund (cons aund nil))))))))))))))))))))))))))) (cons (some' (cons (ga (szs hole) (cons (ki .i64 hole) (cons (ki .u64 hole) nil))) nil)) (cons (some' (cons (gc (cf (fi .i64 (int 0)))) (cons (gc (cf (fi .u64 (int 0)))) nil))) (cons (some' (cons (gc (cf (fi .i64 hole))) (cons (gc (cf (fi .u64 hole))) nil))) nil))) nil)
end
theorem q_wide_Add_0 : ∀ b, (Q_wide_Add_0).em b = St.mk
    [AV.und, AV.und, AV.r (RV.c (CV.ptr 1 (Off.k 0) 2)), AV.und, AV.r (RV.c (CV.ptr 2 (Off.k 0) 2)), AV.und, AV.und, AV.und, AV.und, AV.r (RV.c (CV.sl 0 (Off.k 0) (Sz.s b.1.2.2.2.2.2.2.2.2.2.1.2.2.1) 2 b.1.2.2.2.2.2.2.2.2.2.1.2.2.2.2)),
      AV.r (RV.c (CV.f (FV.i IntKind.i64 b.1.2.2.2.2.2.2.2.2.2.2.1))), AV.r (RV.c (CV.f (FV.i IntKind.i64 b.1.2.2.2.2.2.2.2.2.2.2.2.1))), AV.und, AV.und, AV.und, AV.und, AV.und, AV.und, AV.und, AV.und, AV.und, AV.und, AV.und, AV.und, AV.und, AV.und,
      AV.und]
    [some [Sg.a (Sz.s b.2.1.1.1.1) [Col.i IntKind.i64 b.2.1.1.1.2.1, Col.i IntKind.u64 b.2.1.1.1.2.2.1]], some [Sg.c (CV.f (FV.i IntKind.i64 0)), Sg.c (CV.f (FV.i IntKind.u64 0))],
      some [Sg.c (CV.f (FV.i IntKind.i64 b.2.1.2.2.1.1)), Sg.c (CV.f (FV.i IntKind.u64 b.2.1.2.2.1.2.1))]]
    [] := fun b => by kernel_rfl
def R_wide_Add_0 (l : ∀ {ρ : Type}, (Nat × Bool × Int × Int × Nat × (Nat → Int) × (Nat → Int) × Int × Int) → ((Bool × Nat × Bool × Int × Int × Bool × Nat × Int × Int × Int × Int × Int × Int × Bool × Nat × (Nat → Int) × (Nat → Int) ⊕ Nat × Bool × Int × Int × Bool × Nat × (Nat → Int) × (Nat → Int) × Int × Int) → Option ρ) → Option ρ) {ρ : Type} (s : St) (K : AX → St → Option ρ) : Option ρ := ((Q_wide_Add_0).rd s).bind fun b => l (b.1.2.2.2.2.2.2.2.2.2.1.2.2.1, b.1.2.2.2.2.2.2.2.2.2.1.2.2.2.2, b.1.2.2.2.2.2.2.2.2.2.2.1, b.1.2.2.2.2.2.2.2.2.2.2.2.1, b.2.1.1.1.1, b.2.1.1.1.2.1, b.2.1.1.1.2.2.1, b.2.1.2.2.1.1, b.2.1.2.2.1.2.1) (Sum.elim (fun d => K (AX.ret) (St.mk
  [AV.und, AV.und, AV.r (RV.c (CV.ptr 1 (Off.k 0) 2)), AV.r (RV.c (CV.f (FV.b false))), AV.r (RV.c (CV.ptr 2 (Off.k 0) 2)), AV.und, AV.r (RV.c (CV.ptr 3 (Off.k 0) 2)),
    AV.r (RV.c (CV.ptr 4 (Off.k 0) 2)), AV.r (RV.c (CV.f (FV.b d.fst))), AV.r (RV.c (CV.sl 0 (Off.k 0) (Sz.s d.snd.fst) 2 d.snd.snd.fst)), AV.r (RV.c (CV.f (FV.i IntKind.i64 d.snd.snd.snd.fst))),
    AV.r (RV.c (CV.f (FV.i IntKind.i64 d.snd.snd.snd.snd.fst))), AV.r (RV.c (CV.f (FV.b d.snd.snd.snd.snd.snd.fst))), AV.r (RV.c (CV.ptr 0 (Off.x 0 d.snd.snd.snd.snd.snd.snd.fst 2) 2)),
    AV.r (RV.agg [Sg.c (CV.f (FV.i IntKind.i64 d.snd.snd.snd.snd.snd.snd.snd.fst)), Sg.c (CV.f (FV.i IntKind.u64 d.snd.snd.snd.snd.snd.snd.snd.snd.fst))]),
    AV.tup [RV.agg [Sg.c (CV.f (FV.i IntKind.i64 d.snd.snd.snd.snd.snd.snd.snd.snd.snd.fst)), Sg.c (CV.f (FV.i IntKind.u64 d.snd.snd.snd.snd.snd.snd.snd.snd.snd.snd.fst))], RV.c (CV.f (FV.b d.fst))],
    AV.r (RV.agg [Sg.c (CV.f (FV.i IntKind.i64 d.snd.snd.snd.snd.snd.snd.snd.snd.snd.snd.snd.fst)), Sg.c (CV.f (FV.i IntKind.u64 d.snd.snd.snd.snd.snd.snd.snd.snd.snd.snd.snd.snd.fst))]),
    AV.r (RV.agg [Sg.c (CV.f (FV.i IntKind.i64 d.snd.snd.snd.snd.snd.snd.snd.fst)), Sg.c (CV.f (FV.i IntKind.u64 d.snd.snd.snd.snd.snd.snd.snd.snd.fst))]),
    AV.tup [RV.agg [Sg.c (CV.f (FV.i IntKind.i64 d.snd.snd.snd.snd.snd.snd.snd.snd.snd.fst)), Sg.c (CV.f (FV.i IntKind.u64 d.snd.snd.snd.snd.snd.snd.snd.snd.snd.snd.fst))], RV.c (CV.f (FV.b d.fst))],
    AV.r (RV.agg [Sg.c (CV.f (FV.i IntKind.i64 d.snd.snd.snd.snd.snd.snd.snd.snd.snd.fst)), Sg.c (CV.f (FV.i IntKind.u64 d.snd.snd.snd.snd.snd.snd.snd.snd.snd.snd.fst))]),
    AV.r (RV.c (CV.f (FV.b d.fst))), AV.r (RV.c (CV.f (FV.b d.fst))), AV.r (RV.c (CV.f (FV.b d.snd.snd.snd.snd.snd.snd.snd.snd.snd.snd.snd.snd.snd.fst))),
    AV.r (RV.agg [Sg.c (CV.f (FV.i IntKind.i64 0)), Sg.c (CV.f (FV.i IntKind.u64 0))]), AV.und, AV.und, AV.und]
  [some
      [Sg.a (Sz.s d.snd.snd.snd.snd.snd.snd.snd.snd.snd.snd.snd.snd.snd.snd.fst)
          [Col.i IntKind.i64 d.snd.snd.snd.snd.snd.snd.snd.snd.snd.snd.snd.snd.snd.snd.snd.fst, Col.i IntKind.u64 d.snd.snd.snd.snd.snd.snd.snd.snd.snd.snd.snd.snd.snd.snd.snd.snd]],
    some [Sg.c (CV.f (FV.i IntKind.i64 0)), Sg.c (CV.f (FV.i IntKind.u64 0))],
    some [Sg.c (CV.f (FV.i IntKind.i64 d.snd.snd.snd.snd.snd.snd.snd.snd.snd.snd.snd.fst)), Sg.c (CV.f (FV.i IntKind.u64 d.snd.snd.snd.snd.snd.snd.snd.snd.snd.snd.snd.snd.fst))],
    some [Sg.c (CV.f (FV.i IntKind.i64 d.snd.snd.snd.snd.snd.snd.snd.fst)), Sg.c (CV.f (FV.i IntKind.u64 d.snd.snd.snd.snd.snd.snd.snd.snd.fst))],
    some [Sg.c (CV.f (FV.i IntKind.i64 d.snd.snd.snd.snd.snd.snd.snd.snd.snd.fst)), Sg.c (CV.f (FV.i IntKind.u64 d.snd.snd.snd.snd.snd.snd.snd.snd.snd.snd.fst))]]
  [])) (fun d => K (AX.ex 0) (St.mk
  [AV.und, AV.und, AV.r (RV.c (CV.ptr 1 (Off.k 0) 2)), AV.und, AV.r (RV.c (CV.ptr 2 (Off.k 0) 2)), AV.und, AV.und, AV.und, AV.und, AV.r (RV.c (CV.sl 0 (Off.k 0) (Sz.s d.fst) 2 d.snd.fst)),
    AV.r (RV.c (CV.f (FV.i IntKind.i64 d.snd.snd.fst))), AV.r (RV.c (CV.f (FV.i IntKind.i64 d.snd.snd.snd.fst))), AV.r (RV.c (CV.f (FV.b d.snd.snd.snd.snd.fst))), AV.und, AV.und, AV.und, AV.und,
    AV.und, AV.und, AV.und, AV.und, AV.und, AV.und, AV.und, AV.und, AV.und, AV.und]
  [some [Sg.a (Sz.s d.snd.snd.snd.snd.snd.fst) [Col.i IntKind.i64 d.snd.snd.snd.snd.snd.snd.fst, Col.i IntKind.u64 d.snd.snd.snd.snd.snd.snd.snd.fst]],
    some [Sg.c (CV.f (FV.i IntKind.i64 0)), Sg.c (CV.f (FV.i IntKind.u64 0))],
    some [Sg.c (CV.f (FV.i IntKind.i64 d.snd.snd.snd.snd.snd.snd.snd.snd.fst)), Sg.c (CV.f (FV.i IntKind.u64 d.snd.snd.snd.snd.snd.snd.snd.snd.snd))]]
  [])))
theorem ms_wide_Add_0 {ρ σ : Type} (g_wide_add : Int → Int → Int → Int → Option (Int × Int × Bool))   (q : ρ → Option σ) (x0 : Nat) (x1 : Bool) (x2 : Int) (x3 : Int) (x4 : Nat) (x5 : Nat → Int) (x6 : Nat → Int) (x7 : Int) (x8 : Int) (c : (Nat × Bool × Int × Int × Nat × (Nat → Int) × (Nat → Int) × Int × Int) → Option ρ) (x : (Bool × Nat × Bool × Int × Int × Bool × Nat × Int × Int × Int × Int × Int × Int × Bool × Nat × (Nat → Int) × (Nat → Int) ⊕ Nat × Bool × Int × Int × Bool × Nat × (Nat → Int) × (Nat → Int) × Int × Int) → Option ρ) : (S_wide_Add_0 g_wide_add  x0 x1 x2 x3 x4 x5 x6 x7 x8 c x).bind q = S_wide_Add_0 g_wide_add  x0 x1 x2 x3 x4 x5 x6 x7 x8 (fun d => (c d).bind q) (fun d => (x d).bind q) := by
  simp only [S_wide_Add_0, bnd_cond, bnd_bind, bnd_none, bnd_sum]
def L_wide_Add_0 {ρ : Type} (d : Nat × Bool × Int × Int × Nat × (Nat → Int) × (Nat → Int) × Int × Int) (k : (Bool × Nat × Bool × Int × Int × Bool × Nat × Int × Int × Int × Int × Int × Int × Bool × Nat × (Nat → Int) × (Nat → Int) ⊕ Nat × Bool × Int × Int × Bool × Nat × (Nat → Int) × (Nat → Int) × Int × Int) → Option ρ) : Option ρ := loopK (fun d c x => S_wide_Add_0 f_wide_add  d.1 d.2.1 d.2.2.1 d.2.2.2.1 d.2.2.2.2.1 d.2.2.2.2.2.1 d.2.2.2.2.2.2.1 d.2.2.2.2.2.2.2.1 d.2.2.2.2.2.2.2.2 c x) 200 d k
theorem mL_wide_Add_0 {ρ σ : Type} (q : ρ → Option σ) (d : Nat × Bool × Int × Int × Nat × (Nat → Int) × (Nat → Int) × Int × Int) (k : (Bool × Nat × Bool × Int × Int × Bool × Nat × Int × Int × Int × Int × Int × Int × Bool × Nat × (Nat → Int) × (Nat → Int) ⊕ Nat × Bool × Int × Int × Bool × Nat × (Nat → Int) × (Nat → Int) × Int × Int) → Option ρ) : (L_wide_Add_0 d k).bind q = L_wide_Add_0 d fun x => (k x).bind q :=
  loopK_bind q (fun d c x => ms_wide_Add_0 f_wide_add   q d.1 d.2.1 d.2.2.1 d.2.2.2.1 d.2.2.2.2.1 d.2.2.2.2.2.1 d.2.2.2.2.2.2.1 d.2.2.2.2.2.2.2.1 d.2.2.2.2.2.2.2.2 c x) k _ d
theorem ds_wide_Add_0 {ρ : Type} (g_wide_add : Int → Int → Int → Int → Option (Int × Int × Bool)) (l_0 : ∀ {ρ : Type}, (Nat × Bool × Int × Int × Nat × (Nat → Int) × (Nat → Int) × Int × Int) → ((Bool × Nat × Bool × Int × Int × Bool × Nat × Int × Int × Int × Int × Int × Int × Bool × Nat × (Nat → Int) × (Nat → Int) ⊕ Nat × Bool × Int × Int × Bool × Nat × (Nat → Int) × (Nat → Int) × Int × Int) → Option ρ) → Option ρ) (x0 : Nat) (x1 : Bool) (x2 : Int) (x3 : Int) (x4 : Nat) (x5 : Nat → Int) (x6 : Nat → Int) (x7 : Int) (x8 : Int) (c : St → Option ρ) (K : AX → St → Option ρ) :
    runC Try.prog (envOf [(56, F_wide_add g_wide_add)]) ⟨[⟨3, [0, 1, 3, 5, 6, 7, 8, 12, 13, 14, 15, 16, 17, 18, 19, 20, 21, 22, 23, 24, 25, 26], []⟩], [⟨3, 1, @R_wide_Add_0 (@l_0)⟩], [], [], none⟩ (tmpsOf Try.prog 20) 1 200 (loopIn Try.prog 20 3)
      (St.mk
    [AV.und, AV.und, AV.r (RV.c (CV.ptr 1 (Off.k 0) 2)), AV.und, AV.r (RV.c (CV.ptr 2 (Off.k 0) 2)), AV.und, AV.und, AV.und, AV.und, AV.r (RV.c (CV.sl 0 (Off.k 0) (Sz.s x0) 2 x1)),
      AV.r (RV.c (CV.f (FV.i IntKind.i64 x2))), AV.r (RV.c (CV.f (FV.i IntKind.i64 x3))), AV.und, AV.und, AV.und, AV.und, AV.und, AV.und, AV.und, AV.und, AV.und, AV.und, AV.und, AV.und, AV.und, AV.und,
      AV.und]
    [some [Sg.a (Sz.s x4) [Col.i IntKind.i64 x5, Col.i IntKind.u64 x6]], some [Sg.c (CV.f (FV.i IntKind.i64 0)), Sg.c (CV.f (FV.i IntKind.u64 0))],
      some [Sg.c (CV.f (FV.i IntKind.i64 x7)), Sg.c (CV.f (FV.i IntKind.u64 x8))]]
    [])
      (next (fun t => t.head 1 ⟨[⟨3, [0, 1, 3, 5, 6, 7, 8, 12, 13, 14, 15, 16, 17, 18, 19, 20, 21, 22, 23, 24, 25, 26], []⟩], [⟨3, 1, @R_wide_Add_0 (@l_0)⟩], [], [], none⟩ (loopIn Try.prog 20 3)) c K) =
    S_wide_Add_0 g_wide_add  x0 x1 x2 x3 x4 x5 x6 x7 x8 (fun d => c (St.mk
  [AV.und, AV.und, AV.r (RV.c (CV.ptr 1 (Off.k 0) 2)), AV.und, AV.r (RV.c (CV.ptr 2 (Off.k 0) 2)), AV.und, AV.und, AV.und, AV.und, AV.r (RV.c (CV.sl 0 (Off.k 0) (Sz.s d.fst) 2 d.snd.fst)),
    AV.r (RV.c (CV.f (FV.i IntKind.i64 d.snd.snd.fst))), AV.r (RV.c (CV.f (FV.i IntKind.i64 d.snd.snd.snd.fst))), AV.und, AV.und, AV.und, AV.und, AV.und, AV.und, AV.und, AV.und, AV.und, AV.und,
    AV.und, AV.und, AV.und, AV.und, AV.und]
  [some [Sg.a (Sz.s d.snd.snd.snd.snd.fst) [Col.i IntKind.i64 d.snd.snd.snd.snd.snd.fst, Col.i IntKind.u64 d.snd.snd.snd.snd.snd.snd.fst]],
    some [Sg.c (CV.f (FV.i IntKind.i64 0)), Sg.c (CV.f (FV.i IntKind.u64 0))],
    some [Sg.c (CV.f (FV.i IntKind.i64 d.snd.snd.snd.snd.snd.snd.snd.fst)), Sg.c (CV.f (FV.i IntKind.u64 d.snd.snd.snd.snd.snd.snd.snd.snd))]]
  [])) (Sum.elim (fun d => K (AX.ret) (St.mk
  [AV.und, AV.und, AV.r (RV.c (CV.ptr 1 (Off.k 0) 2)), AV.r (RV.c (CV.f (FV.b false))), AV.r (RV.c (CV.ptr 2 (Off.k 0) 2)), AV.und, AV.r (RV.c (CV.ptr 3 (Off.k 0) 2)),
    AV.r (RV.c (CV.ptr 4 (Off.k 0) 2)), AV.r (RV.c (CV.f (FV.b d.fst))), AV.r (RV.c (CV.sl 0 (Off.k 0) (Sz.s d.snd.fst) 2 d.snd.snd.fst)), AV.r (RV.c (CV.f (FV.i IntKind.i64 d.snd.snd.snd.fst))),
    AV.r (RV.c (CV.f (FV.i IntKind.i64 d.snd.snd.snd.snd.fst))), AV.r (RV.c (CV.f (FV.b d.snd.snd.snd.snd.snd.fst))), AV.r (RV.c (CV.ptr 0 (Off.x 0 d.snd.snd.snd.snd.snd.snd.fst 2) 2)),
    AV.r (RV.agg [Sg.c (CV.f (FV.i IntKind.i64 d.snd.snd.snd.snd.snd.snd.snd.fst)), Sg.c (CV.f (FV.i IntKind.u64 d.snd.snd.snd.snd.snd.snd.snd.snd.fst))]),
    AV.tup [RV.agg [Sg.c (CV.f (FV.i IntKind.i64 d.snd.snd.snd.snd.snd.snd.snd.snd.snd.fst)), Sg.c (CV.f (FV.i IntKind.u64 d.snd.snd.snd.snd.snd.snd.snd.snd.snd.snd.fst))], RV.c (CV.f (FV.b d.fst))],
    AV.r (RV.agg [Sg.c (CV.f (FV.i IntKind.i64 d.snd.snd.snd.snd.snd.snd.snd.snd.snd.snd.snd.fst)), Sg.c (CV.f (FV.i IntKind.u64 d.snd.snd.snd.snd.snd.snd.snd.snd.snd.snd.snd.snd.fst))]),
    AV.r (RV.agg [Sg.c (CV.f (FV.i IntKind.i64 d.snd.snd.snd.snd.snd.snd.snd.fst)), Sg.c (CV.f (FV.i IntKind.u64 d.snd.snd.snd.snd.snd.snd.snd.snd.fst))]),
    AV.tup [RV.agg [Sg.c (CV.f (FV.i IntKind.i64 d.snd.snd.snd.snd.snd.snd.snd.snd.snd.fst)), Sg.c (CV.f (FV.i IntKind.u64 d.snd.snd.snd.snd.snd.snd.snd.snd.snd.snd.fst))], RV.c (CV.f (FV.b d.fst))],
    AV.r (RV.agg [Sg.c (CV.f (FV.i IntKind.i64 d.snd.snd.snd.snd.snd.snd.snd.snd.snd.fst)), Sg.c (CV.f (FV.i IntKind.u64 d.snd.snd.snd.snd.snd.snd.snd.snd.snd.snd.fst))]),
    AV.r (RV.c (CV.f (FV.b d.fst))), AV.r (RV.c (CV.f (FV.b d.fst))), AV.r (RV.c (CV.f (FV.b d.snd.snd.snd.snd.snd.snd.snd.snd.snd.snd.snd.snd.snd.fst))),
    AV.r (RV.agg [Sg.c (CV.f (FV.i IntKind.i64 0)), Sg.c (CV.f (FV.i IntKind.u64 0))]), AV.und, AV.und, AV.und]
  [some
      [Sg.a (Sz.s d.snd.snd.snd.snd.snd.snd.snd.snd.snd.snd.snd.snd.snd.snd.fst)
          [Col.i IntKind.i64 d.snd.snd.snd.snd.snd.snd.snd.snd.snd.snd.snd.snd.snd.snd.snd.fst, Col.i IntKind.u64 d.snd.snd.snd.snd.snd.snd.snd.snd.snd.snd.snd.snd.snd.snd.snd.snd]],
    some [Sg.c (CV.f (FV.i IntKind.i64 0)), Sg.c (CV.f (FV.i IntKind.u64 0))],
    some [Sg.c (CV.f (FV.i IntKind.i64 d.snd.snd.snd.snd.snd.snd.snd.snd.snd.snd.snd.fst)), Sg.c (CV.f (FV.i IntKind.u64 d.snd.snd.snd.snd.snd.snd.snd.snd.snd.snd.snd.snd.fst))],
    some [Sg.c (CV.f (FV.i IntKind.i64 d.snd.snd.snd.snd.snd.snd.snd.fst)), Sg.c (CV.f (FV.i IntKind.u64 d.snd.snd.snd.snd.snd.snd.snd.snd.fst))],
    some [Sg.c (CV.f (FV.i IntKind.i64 d.snd.snd.snd.snd.snd.snd.snd.snd.snd.fst)), Sg.c (CV.f (FV.i IntKind.u64 d.snd.snd.snd.snd.snd.snd.snd.snd.snd.snd.fst))]]
  [])) (fun d => K (AX.ex 0) (St.mk
  [AV.und, AV.und, AV.r (RV.c (CV.ptr 1 (Off.k 0) 2)), AV.und, AV.r (RV.c (CV.ptr 2 (Off.k 0) 2)), AV.und, AV.und, AV.und, AV.und, AV.r (RV.c (CV.sl 0 (Off.k 0) (Sz.s d.fst) 2 d.snd.fst)),
    AV.r (RV.c (CV.f (FV.i IntKind.i64 d.snd.snd.fst))), AV.r (RV.c (CV.f (FV.i IntKind.i64 d.snd.snd.snd.fst))), AV.r (RV.c (CV.f (FV.b d.snd.snd.snd.snd.fst))), AV.und, AV.und, AV.und, AV.und,
    AV.und, AV.und, AV.und, AV.und, AV.und, AV.und, AV.und, AV.und, AV.und, AV.und]
  [some [Sg.a (Sz.s d.snd.snd.snd.snd.snd.fst) [Col.i IntKind.i64 d.snd.snd.snd.snd.snd.snd.fst, Col.i IntKind.u64 d.snd.snd.snd.snd.snd.snd.snd.fst]],
    some [Sg.c (CV.f (FV.i IntKind.i64 0)), Sg.c (CV.f (FV.i IntKind.u64 0))],
    some [Sg.c (CV.f (FV.i IntKind.i64 d.snd.snd.snd.snd.snd.snd.snd.snd.fst)), Sg.c (CV.f (FV.i IntKind.u64 d.snd.snd.snd.snd.snd.snd.snd.snd.snd))]]
  []))) := by kernel_rfl
theorem it_wide_Add_0 {ρ : Type} (x0 : Nat) (x1 : Bool) (x2 : Int) (x3 : Int) (x4 : Nat) (x5 : Nat → Int) (x6 : Nat → Int) (x7 : Int) (x8 : Int) (K : AX → St → Option ρ) :
    iter (fun t => t.head 1 ⟨[⟨3, [0, 1, 3, 5, 6, 7, 8, 12, 13, 14, 15, 16, 17, 18, 19, 20, 21, 22, 23, 24, 25, 26], []⟩], [⟨3, 1, @R_wide_Add_0 (@L_wide_Add_0)⟩], [], [], none⟩ (loopIn Try.prog 20 3)) (runC Try.prog (envOf [(56, F_wide_add f_wide_add)]) ⟨[⟨3, [0, 1, 3, 5, 6, 7, 8, 12, 13, 14, 15, 16, 17, 18, 19, 20, 21, 22, 23, 24, 25, 26], []⟩], [⟨3, 1, @R_wide_Add_0 (@L_wide_Add_0)⟩], [], [], none⟩ (tmpsOf Try.prog 20) 1 200 (loopIn Try.prog 20 3)) K 200
      (St.mk
    [AV.und, AV.und, AV.r (RV.c (CV.ptr 1 (Off.k 0) 2)), AV.und, AV.r (RV.c (CV.ptr 2 (Off.k 0) 2)), AV.und, AV.und, AV.und, AV.und, AV.r (RV.c (CV.sl 0 (Off.k 0) (Sz.s x0) 2 x1)),
      AV.r (RV.c (CV.f (FV.i IntKind.i64 x2))), AV.r (RV.c (CV.f (FV.i IntKind.i64 x3))), AV.und, AV.und, AV.und, AV.und, AV.und, AV.und, AV.und, AV.und, AV.und, AV.und, AV.und, AV.und, AV.und, AV.und,
      AV.und]
    [some [Sg.a (Sz.s x4) [Col.i IntKind.i64 x5, Col.i IntKind.u64 x6]], some [Sg.c (CV.f (FV.i IntKind.i64 0)), Sg.c (CV.f (FV.i IntKind.u64 0))],
      some [Sg.c (CV.f (FV.i IntKind.i64 x7)), Sg.c (CV.f (FV.i IntKind.u64 x8))]]
    []) = L_wide_Add_0 (x0, x1, x2, x3, x4, x5, x6, x7, x8) (Sum.elim (fun d => K (AX.ret) (St.mk
  [AV.und, AV.und, AV.r (RV.c (CV.ptr 1 (Off.k 0) 2)), AV.r (RV.c (CV.f (FV.b false))), AV.r (RV.c (CV.ptr 2 (Off.k 0) 2)), AV.und, AV.r (RV.c (CV.ptr 3 (Off.k 0) 2)),
    AV.r (RV.c (CV.ptr 4 (Off.k 0) 2)), AV.r (RV.c (CV.f (FV.b d.fst))), AV.r (RV.c (CV.sl 0 (Off.k 0) (Sz.s d.snd.fst) 2 d.snd.snd.fst)), AV.r (RV.c (CV.f (FV.i IntKind.i64 d.snd.snd.snd.fst))),
    AV.r (RV.c (CV.f (FV.i IntKind.i64 d.snd.snd.snd.snd.fst))), AV.r (RV.c (CV.f (FV.b d.snd.snd.snd.snd.snd.fst))), AV.r (RV.c (CV.ptr 0 (Off.x 0 d.snd.snd.snd.snd.snd.snd.fst 2) 2)),
    AV.r (RV.agg [Sg.c (CV.f (FV.i IntKind.i64 d.snd.snd.snd.snd.snd.snd.snd.fst)), Sg.c (CV.f (FV.i IntKind.u64 d.snd.snd.snd.snd.snd.snd.snd.snd.fst))]),
    AV.tup [RV.agg [Sg.c (CV.f (FV.i IntKind.i64 d.snd.snd.snd.snd.snd.snd.snd.snd.snd.fst)), Sg.c (CV.f (FV.i IntKind.u64 d.snd.snd.snd.snd.snd.snd.snd.snd.snd.snd.fst))], RV.c (CV.f (FV.b d.fst))],
    AV.r (RV.agg [Sg.c (CV.f (FV.i IntKind.i64 d.snd.snd.snd.snd.snd.snd.snd.snd.snd.snd.snd.fst)), Sg.c (CV.f (FV.i IntKind.u64 d.snd.snd.snd.snd.snd.snd.snd.snd.snd.snd.snd.snd.fst))]),
    AV.r (RV.agg [Sg.c (CV.f (FV.i IntKind.i64 d.snd.snd.snd.snd.snd.snd.snd.fst)), Sg.c (CV.f (FV.i IntKind.u64 d.snd.snd.snd.snd.snd.snd.snd.snd.fst))]),
    AV.tup [RV.agg [Sg.c (CV.f (FV.i IntKind.i64 d.snd.snd.snd.snd.snd.snd.snd.snd.snd.fst)), Sg.c (CV.f (FV.i IntKind.u64 d.snd.snd.snd.snd.snd.snd.snd.snd.snd.snd.fst))], RV.c (CV.f (FV.b d.fst))],
    AV.r (RV.agg [Sg.c (CV.f (FV.i IntKind.i64 d.snd.snd.snd.snd.snd.snd.snd.snd.snd.fst)), Sg.c (CV.f (FV.i IntKind.u64 d.snd.snd.snd.snd.snd.snd.snd.snd.snd.snd.fst))]),
    AV.r (RV.c (CV.f (FV.b d.fst))), AV.r (RV.c (CV.f (FV.b d.fst))), AV.r (RV.c (CV.f (FV.b d.snd.snd.snd.snd.snd.snd.snd.snd.snd.snd.snd.snd.snd.fst))),
    AV.r (RV.agg [Sg.c (CV.f (FV.i IntKind.i64 0)), Sg.c (CV.f (FV.i IntKind.u64 0))]), AV.und, AV.und, AV.und]
  [some
      [Sg.a (Sz.s d.snd.snd.snd.snd.snd.snd.snd.snd.snd.snd.snd.snd.snd.snd.fst)
          [Col.i IntKind.i64 d.snd.snd.snd.snd.snd.snd.snd.snd.snd.snd.snd.snd.snd.snd.snd.fst, Col.i IntKind.u64 d.snd.snd.snd.snd.snd.snd.snd.snd.snd.snd.snd.snd.snd.snd.snd.snd]],
    some [Sg.c (CV.f (FV.i IntKind.i64 0)), Sg.c (CV.f (FV.i IntKind.u64 0))],
    some [Sg.c (CV.f (FV.i IntKind.i64 d.snd.snd.snd.snd.snd.snd.snd.snd.snd.snd.snd.fst)), Sg.c (CV.f (FV.i IntKind.u64 d.snd.snd.snd.snd.snd.snd.snd.snd.snd.snd.snd.snd.fst))],
    some [Sg.c (CV.f (FV.i IntKind.i64 d.snd.snd.snd.snd.snd.snd.snd.fst)), Sg.c (CV.f (FV.i IntKind.u64 d.snd.snd.snd.snd.snd.snd.snd.snd.fst))],
    some [Sg.c (CV.f (FV.i IntKind.i64 d.snd.snd.snd.snd.snd.snd.snd.snd.snd.fst)), Sg.c (CV.f (FV.i IntKind.u64 d.snd.snd.snd.snd.snd.snd.snd.snd.snd.snd.fst))]]
  [])) (fun d => K (AX.ex 0) (St.mk
  [AV.und, AV.und, AV.r (RV.c (CV.ptr 1 (Off.k 0) 2)), AV.und, AV.r (RV.c (CV.ptr 2 (Off.k 0) 2)), AV.und, AV.und, AV.und, AV.und, AV.r (RV.c (CV.sl 0 (Off.k 0) (Sz.s d.fst) 2 d.snd.fst)),
    AV.r (RV.c (CV.f (FV.i IntKind.i64 d.snd.snd.fst))), AV.r (RV.c (CV.f (FV.i IntKind.i64 d.snd.snd.snd.fst))), AV.r (RV.c (CV.f (FV.b d.snd.snd.snd.snd.fst))), AV.und, AV.und, AV.und, AV.und,
    AV.und, AV.und, AV.und, AV.und, AV.und, AV.und, AV.und, AV.und, AV.und, AV.und]
  [some [Sg.a (Sz.s d.snd.snd.snd.snd.snd.fst) [Col.i IntKind.i64 d.snd.snd.snd.snd.snd.snd.fst, Col.i IntKind.u64 d.snd.snd.snd.snd.snd.snd.snd.fst]],
    some [Sg.c (CV.f (FV.i IntKind.i64 0)), Sg.c (CV.f (FV.i IntKind.u64 0))],
    some [Sg.c (CV.f (FV.i IntKind.i64 d.snd.snd.snd.snd.snd.snd.snd.snd.fst)), Sg.c (CV.f (FV.i IntKind.u64 d.snd.snd.snd.snd.snd.snd.snd.snd.snd))]]
  []))) :=
  iter_loopX (emb := fun (d : Nat × Bool × Int × Int × Nat × (Nat → Int) × (Nat → Int) × Int × Int) => St.mk
  [AV.und, AV.und, AV.r (RV.c (CV.ptr 1 (Off.k 0) 2)), AV.und, AV.r (RV.c (CV.ptr 2 (Off.k 0) 2)), AV.und, AV.und, AV.und, AV.und, AV.r (RV.c (CV.sl 0 (Off.k 0) (Sz.s d.fst) 2 d.snd.fst)),
    AV.r (RV.c (CV.f (FV.i IntKind.i64 d.snd.snd.fst))), AV.r (RV.c (CV.f (FV.i IntKind.i64 d.snd.snd.snd.fst))), AV.und, AV.und, AV.und, AV.und, AV.und, AV.und, AV.und, AV.und, AV.und, AV.und,
    AV.und, AV.und, AV.und, AV.und, AV.und]
  [some [Sg.a (Sz.s d.snd.snd.snd.snd.fst) [Col.i IntKind.i64 d.snd.snd.snd.snd.snd.fst, Col.i IntKind.u64 d.snd.snd.snd.snd.snd.snd.fst]],
    some [Sg.c (CV.f (FV.i IntKind.i64 0)), Sg.c (CV.f (FV.i IntKind.u64 0))],
    some [Sg.c (CV.f (FV.i IntKind.i64 d.snd.snd.snd.snd.snd.snd.snd.fst)), Sg.c (CV.f (FV.i IntKind.u64 d.snd.snd.snd.snd.snd.snd.snd.snd))]]
  []) (step := fun d c x => S_wide_Add_0 f_wide_add  d.1 d.2.1 d.2.2.1 d.2.2.2.1 d.2.2.2.2.1 d.2.2.2.2.2.1 d.2.2.2.2.2.2.1 d.2.2.2.2.2.2.2.1 d.2.2.2.2.2.2.2.2 c x) (kx := (Sum.elim (fun d => K (AX.ret) (St.mk
  [AV.und, AV.und, AV.r (RV.c (CV.ptr 1 (Off.k 0) 2)), AV.r (RV.c (CV.f (FV.b false))), AV.r (RV.c (CV.ptr 2 (Off.k 0) 2)), AV.und, AV.r (RV.c (CV.ptr 3 (Off.k 0) 2)),
    AV.r (RV.c (CV.ptr 4 (Off.k 0) 2)), AV.r (RV.c (CV.f (FV.b d.fst))), AV.r (RV.c (CV.sl 0 (Off.k 0) (Sz.s d.snd.fst) 2 d.snd.snd.fst)), AV.r (RV.c (CV.f (FV.i IntKind.i64 d.snd.snd.snd.fst))),
    AV.r (RV.c (CV.f (FV.i IntKind.i64 d.snd.snd.snd.snd.fst))), AV.r (RV.c (CV.f (FV.b d.snd.snd.snd.snd.snd.fst))), AV.r (RV.c (CV.ptr 0 (Off.x 0 d.snd.snd.snd.snd.snd.snd.fst 2) 2)),
    AV.r (RV.agg [Sg.c (CV.f (FV.i IntKind.i64 d.snd.snd.snd.snd.snd.snd.snd.fst)), Sg.c (CV.f (FV.i IntKind.u64 d.snd.snd.snd.snd.snd.snd.snd.snd.fst))]),
    AV.tup [RV.agg [Sg.c (CV.f (FV.i IntKind.i64 d.snd.snd.snd.snd.snd.snd.snd.snd.snd.fst)), Sg.c (CV.f (FV.i IntKind.u64 d.snd.snd.snd.snd.snd.snd.snd.snd.snd.snd.fst))], RV.c (CV.f (FV.b d.fst))],
    AV.r (RV.agg [Sg.c (CV.f (FV.i IntKind.i64 d.snd.snd.snd.snd.snd.snd.snd.snd.snd.snd.snd.fst)), Sg.c (CV.f (FV.i IntKind.u64 d.snd.snd.snd.snd.snd.snd.snd.snd.snd.snd.snd.snd.fst))]),
    AV.r (RV.agg [Sg.c (CV.f (FV.i IntKind.i64 d.snd.snd.snd.snd.snd.snd.snd.fst)), Sg.c (CV.f (FV.i IntKind.u64 d.snd.snd.snd.snd.snd.snd.snd.snd.fst))]),
    AV.tup [RV.agg [Sg.c (CV.f (FV.i IntKind.i64 d.snd.snd.snd.snd.snd.snd.snd.snd.snd.fst)), Sg.c (CV.f (FV.i IntKind.u64 d.snd.snd.snd.snd.snd.snd.snd.snd.snd.snd.fst))], RV.c (CV.f (FV.b d.fst))],
    AV.r (RV.agg [Sg.c (CV.f (FV.i IntKind.i64 d.snd.snd.snd.snd.snd.snd.snd.snd.snd.fst)), Sg.c (CV.f (FV.i IntKind.u64 d.snd.snd.snd.snd.snd.snd.snd.snd.snd.snd.fst))]),
    AV.r (RV.c (CV.f (FV.b d.fst))), AV.r (RV.c (CV.f (FV.b d.fst))), AV.r (RV.c (CV.f (FV.b d.snd.snd.snd.snd.snd.snd.snd.snd.snd.snd.snd.snd.snd.fst))),
    AV.r (RV.agg [Sg.c (CV.f (FV.i IntKind.i64 0)), Sg.c (CV.f (FV.i IntKind.u64 0))]), AV.und, AV.und, AV.und]
  [some
      [Sg.a (Sz.s d.snd.snd.snd.snd.snd.snd.snd.snd.snd.snd.snd.snd.snd.snd.fst)
          [Col.i IntKind.i64 d.snd.snd.snd.snd.snd.snd.snd.snd.snd.snd.snd.snd.snd.snd.snd.fst, Col.i IntKind.u64 d.snd.snd.snd.snd.snd.snd.snd.snd.snd.snd.snd.snd.snd.snd.snd.snd]],
    some [Sg.c (CV.f (FV.i IntKind.i64 0)), Sg.c (CV.f (FV.i IntKind.u64 0))],
    some [Sg.c (CV.f (FV.i IntKind.i64 d.snd.snd.snd.snd.snd.snd.snd.snd.snd.snd.snd.fst)), Sg.c (CV.f (FV.i IntKind.u64 d.snd.snd.snd.snd.snd.snd.snd.snd.snd.snd.snd.snd.fst))],
    some [Sg.c (CV.f (FV.i IntKind.i64 d.snd.snd.snd.snd.snd.snd.snd.fst)), Sg.c (CV.f (FV.i IntKind.u64 d.snd.snd.snd.snd.snd.snd.snd.snd.fst))],
    some [Sg.c (CV.f (FV.i IntKind.i64 d.snd.snd.snd.snd.snd.snd.snd.snd.snd.fst)), Sg.c (CV.f (FV.i IntKind.u64 d.snd.snd.snd.snd.snd.snd.snd.snd.snd.snd.fst))]]
  [])) (fun d => K (AX.ex 0) (St.mk
  [AV.und, AV.und, AV.r (RV.c (CV.ptr 1 (Off.k 0) 2)), AV.und, AV.r (RV.c (CV.ptr 2 (Off.k 0) 2)), AV.und, AV.und, AV.und, AV.und, AV.r (RV.c (CV.sl 0 (Off.k 0) (Sz.s d.fst) 2 d.snd.fst)),
    AV.r (RV.c (CV.f (FV.i IntKind.i64 d.snd.snd.fst))), AV.r (RV.c (CV.f (FV.i IntKind.i64 d.snd.snd.snd.fst))), AV.r (RV.c (CV.f (FV.b d.snd.snd.snd.snd.fst))), AV.und, AV.und, AV.und, AV.und,
    AV.und, AV.und, AV.und, AV.und, AV.und, AV.und, AV.und, AV.und, AV.und, AV.und]
  [some [Sg.a (Sz.s d.snd.snd.snd.snd.snd.fst) [Col.i IntKind.i64 d.snd.snd.snd.snd.snd.snd.fst, Col.i IntKind.u64 d.snd.snd.snd.snd.snd.snd.snd.fst]],
    some [Sg.c (CV.f (FV.i IntKind.i64 0)), Sg.c (CV.f (FV.i IntKind.u64 0))],
    some [Sg.c (CV.f (FV.i IntKind.i64 d.snd.snd.snd.snd.snd.snd.snd.snd.fst)), Sg.c (CV.f (FV.i IntKind.u64 d.snd.snd.snd.snd.snd.snd.snd.snd.snd))]]
  []))))
    (fun d c => ds_wide_Add_0 f_wide_add (@L_wide_Add_0) d.1 d.2.1 d.2.2.1 d.2.2.2.1 d.2.2.2.2.1 d.2.2.2.2.2.1 d.2.2.2.2.2.2.1 d.2.2.2.2.2.2.2.1 d.2.2.2.2.2.2.2.2 c K) 200 (x0, x1, x2, x3, x4, x5, x6, x7, x8)
theorem so_wide_Add_0 : ∀ kk, SumOK Try.prog (envOf [(56, F_wide_add f_wide_add)]) ⟨[⟨3, [0, 1, 3, 5, 6, 7, 8, 12, 13, 14, 15, 16, 17, 18, 19, 20, 21, 22, 23, 24, 25, 26], []⟩], [⟨3, 1, @R_wide_Add_0 (@L_wide_Add_0)⟩], [], [], none⟩ (tmpsOf Try.prog 20) kk 200 (loopIn Try.prog 20 3) :=
  SumOK.of (id := 3) (k0 := 1) (run := @R_wide_Add_0 (@L_wide_Add_0)) (by kernel_rfl) fun s K r hr => by
    unfold R_wide_Add_0 at hr
    obtain ⟨b, hb, hr1⟩ := Option.bind_eq_some_iff.1 hr
    have e := ((Q_wide_Add_0).ok s b hb).trans (q_wide_Add_0 b)
    subst e
    exact ⟨200, (it_wide_Add_0 b.1.2.2.2.2.2.2.2.2.2.1.2.2.1 b.1.2.2.2.2.2.2.2.2.2.1.2.2.2.2 b.1.2.2.2.2.2.2.2.2.2.2.1 b.1.2.2.2.2.2.2.2.2.2.2.2.1 b.2.1.1.1.1 b.2.1.1.1.2.1 b.2.1.1.1.2.2.1 b.2.1.2.2.1.1 b.2.1.2.2.1.2.1 K).trans hr1⟩
def K_wide_Add {ρ : Type} (g_wide_add : Int → Int → Int → Int → Option (Int × Int × Bool)) (l_0 : ∀ {ρ : Type}, (Nat × Bool × Int × Int × Nat × (Nat → Int) × (Nat → Int) × Int × Int) → ((Bool × Nat × Bool × Int × Int × Bool × Nat × Int × Int × Int × Int × Int × Int × Bool × Nat × (Nat → Int) × (Nat → Int) ⊕ Nat × Bool × Int × Int × Bool × Nat × (Nat → Int) × (Nat → Int) × Int × Int) → Option ρ) → Option ρ) (x0 : Nat) (x1 : Nat → Int) (x2 : Nat → Int) (w0 : Bool) (k : (Int × Int × Bool) → Option ρ) : Option ρ :=
  l_0 (x0, w0, Int.ofNat x0, 0, x0, x1, x2, 0, 0)
    (Sum.elim (fun (d : Bool × Nat × Bool × Int × Int × Bool × Nat × Int × Int × Int × Int × Int × Int × Bool × Nat × (Nat → Int) × (Nat → Int)) => k (0, 0, false))
      fun (d : Nat × Bool × Int × Int × Bool × Nat × (Nat → Int) × (Nat → Int) × Int × Int) => k (d.snd.snd.snd.snd.snd.snd.snd.snd.fst, d.snd.snd.snd.snd.snd.snd.snd.snd.snd, true))
def f_wide_Add (x0 : Nat) (x1 : Nat → Int) (x2 : Nat → Int) (w0 : Bool) : Option (Int × Int × Bool) := K_wide_Add f_wide_add (@L_wide_Add_0) x0 x1 x2 w0 some
section
open Go.Ab.Rdr
def QA_wide_Add := ((pair (cons (ar (rc (csl (nat 0) (ok' (nat 0)) (szs hole) (nat 2) hole))) nil) (cons (cons (ga (szs hole) (cons (ki .i64 hole) (cons (ki .u64 hole) nil))) nil) nil)) : Rdr (List AV × List Blk) _)
end
def F0_wide_Add (f : (Nat) → (Nat → Int) → (Nat → Int) → (Bool) → Option (Int × Int × Bool)) : Sem1 := fun args h => match (QA_wide_Add).rd (args, h) with
  | some b => .test (Nat.beq b.2.1.1.1 b.1.1.2.2.1) (.opt (f b.1.1.2.2.1 b.2.1.1.2.1 b.2.1.1.2.2.1 b.1.1.2.2.2.2) fun (d : Int × Int × Bool) => .leaf (Res.mk (AV.tup [RV.agg [Sg.c (CV.f (FV.i IntKind.i64 d.fst)), Sg.c (CV.f (FV.i IntKind.u64 d.snd.fst))], RV.c (CV.f (FV.b d.snd.snd))]) [Ch.keep] [])) .fail
  | none => .fail
def F_wide_Add (f : (Nat) → (Nat → Int) → (Nat → Int) → (Bool) → Option (Int × Int × Bool)) : Sem1 := (nilF 0 [.i .i64, .i .u64] (F0_wide_Add f))
theorem d_wide_Add (g_wide_add : Int → Int → Int → Int → Option (Int × Int × Bool)) (l_0 : ∀ {ρ : Type}, (Nat × Bool × Int × Int × Nat × (Nat → Int) × (Nat → Int) × Int × Int) → ((Bool × Nat × Bool × Int × Int × Bool × Nat × Int × Int × Int × Int × Int × Int × Bool × Nat × (Nat → Int) × (Nat → Int) ⊕ Nat × Bool × Int × Int × Bool × Nat × (Nat → Int) × (Nat → Int) × Int × Int) → Option ρ) → Option ρ) (x0 : Nat) (x1 : Nat → Int) (x2 : Nat → Int) (w0 : Bool) : den Try.prog (envOf [(56, F_wide_add g_wide_add)]) ⟨[⟨3, [0, 1, 3, 5, 6, 7, 8, 12, 13, 14, 15, 16, 17, 18, 19, 20, 21, 22, 23, 24, 25, 26], []⟩], [⟨3, 1, @R_wide_Add_0 (@l_0)⟩], [], [], none⟩ 200 20 [.r (.c (.sl 0 (.k 0) (.s x0) 2 w0))] [[.a (.s x0) [.i .i64 x1, .i .u64 x2]]] =
    K_wide_Add g_wide_add (@l_0) x0 x1 x2 w0 (fun (d : Int × Int × Bool) => some (Res.mk (AV.tup [RV.agg [Sg.c (CV.f (FV.i IntKind.i64 d.fst)), Sg.c (CV.f (FV.i IntKind.u64 d.snd.fst))], RV.c (CV.f (FV.b d.snd.snd))]) [Ch.keep] [])) := by kernel_rfl
theorem m_wide_Add {ρ σ : Type} (q : ρ → Option σ) (g_wide_add : Int → Int → Int → Int → Option (Int × Int × Bool)) (l_0 : ∀ {ρ : Type}, (Nat × Bool × Int × Int × Nat × (Nat → Int) × (Nat → Int) × Int × Int) → ((Bool × Nat × Bool × Int × Int × Bool × Nat × Int × Int × Int × Int × Int × Int × Bool × Nat × (Nat → Int) × (Nat → Int) ⊕ Nat × Bool × Int × Int × Bool × Nat × (Nat → Int) × (Nat → Int) × Int × Int) → Option ρ) → Option ρ) (hl_0 : ∀ {ρ σ : Type} (q : ρ → Option σ) (d : Nat × Bool × Int × Int × Nat × (Nat → Int) × (Nat → Int) × Int × Int) (k : (Bool × Nat × Bool × Int × Int × Bool × Nat × Int × Int × Int × Int × Int × Int × Bool × Nat × (Nat → Int) × (Nat → Int) ⊕ Nat × Bool × Int × Int × Bool × Nat × (Nat → Int) × (Nat → Int) × Int × Int) → Option ρ), (l_0 d k).bind q = l_0 d fun x => (k x).bind q) (x0 : Nat) (x1 : Nat → Int) (x2 : Nat → Int) (w0 : Bool) (k : (Int × Int × Bool) → Option ρ) : (K_wide_Add g_wide_add (@l_0) x0 x1 x2 w0 k).bind q = K_wide_Add g_wide_add (@l_0) x0 x1 x2 w0 (fun d => (k d).bind q) := by
  simp only [K_wide_Add, bnd_cond, bnd_bind, bnd_none, bnd_sum, hl_0]
theorem qa_wide_Add : ∀ b, (QA_wide_Add).em b = ([.r (.c (.sl 0 (.k 0) (.s b.1.1.2.2.1) 2 b.1.1.2.2.2.2))], [[.a (.s b.2.1.1.1) [.i .i64 b.2.1.1.2.1, .i .u64 b.2.1.1.2.2.1]]]) := fun b => by kernel_rfl
theorem e_wide_Add {f : (Nat) → (Nat → Int) → (Nat → Int) → (Bool) → Option (Int × Int × Bool)} {args : List AV} {h : List Blk} {r : Res} (hr : (F0_wide_Add f args h).eval = some r) : ∃ x0 x1 x2 w0, args = [.r (.c (.sl 0 (.k 0) (.s x0) 2 w0))] ∧ h = [[.a (.s x0) [.i .i64 x1, .i .u64 x2]]] ∧ (f x0 x1 x2 w0).bind (fun (d : Int × Int × Bool) => some (Res.mk (AV.tup [RV.agg [Sg.c (CV.f (FV.i IntKind.i64 d.fst)), Sg.c (CV.f (FV.i IntKind.u64 d.snd.fst))], RV.c (CV.f (FV.b d.snd.snd))]) [Ch.keep] [])) = some r := by
  unfold F0_wide_Add at hr
  split at hr
  · rename_i b hb
    have e := ((QA_wide_Add).ok _ _ hb).trans (qa_wide_Add b)
    obtain ⟨he, hr1⟩ := test_eval hr
    clear hr
    have hr := hr1
    clear hr1
    rw [Nat.eq_of_beq_eq_true he] at e
    clear he
    rw [opt_eval2] at hr
    exact ⟨b.1.1.2.2.1, b.2.1.1.2.1, b.2.1.1.2.2.1, b.1.1.2.2.2.2, (Prod.mk.inj e).1, (Prod.mk.inj e).2, hr⟩
  · cases hr
theorem n_wide_Add {σ : Type} (q : (Int × Int × Bool) → Option σ) (x0 : Nat) (x1 : Nat → Int) (x2 : Nat → Int) (w0 : Bool) : (f_wide_Add x0 x1 x2 w0).bind q = K_wide_Add f_wide_add (@L_wide_Add_0) x0 x1 x2 w0 q := by
  unfold f_wide_Add
  exact m_wide_Add q f_wide_add (@L_wide_Add_0) (fun q d k => mL_wide_Add_0 q d k) x0 x1 x2 w0 some
theorem s_wide_Add : Sound Try.prog 20 (F_wide_Add f_wide_Add) :=
  Sound.nil 0 [.i .i64, .i .u64] <| (inl_sums (l := [(56, F_wide_add f_wide_add)]) (.cons s_wide_add (.nil _)) mixed (hs := ⟨[⟨3, [0, 1, 3, 5, 6, 7, 8, 12, 13, 14, 15, 16, 17, 18, 19, 20, 21, 22, 23, 24, 25, 26], []⟩], [⟨3, 1, @R_wide_Add_0 (@L_wide_Add_0)⟩], [], [], none⟩) (lf := 200) (Sums.by (l := [loopIn Try.prog 20 3]) (lj := []) (by kernel_rfl) ⟨so_wide_Add_0, trivial⟩ (by kernel_rfl) trivial) (by kernel_rfl)).by (F := F0_wide_Add f_wide_Add) fun args b r hr => by
  obtain ⟨x0, x1, x2, w0, rfl, rfl, hr1⟩ := e_wide_Add hr
  exact inl_eval ((d_wide_Add f_wide_add (@L_wide_Add_0) x0 x1 x2 w0).trans ((n_wide_Add (fun (d : Int × Int × Bool) => some (Res.mk (AV.tup [RV.agg [Sg.c (CV.f (FV.i IntKind.i64 d.fst)), Sg.c (CV.f (FV.i IntKind.u64 d.snd.fst))], RV.c (CV.f (FV.b d.snd.snd))]) [Ch.keep] [])) x0 x1 x2 w0).symm.trans hr1))

def K_wide_abs {ρ : Type} (g_Add64 : C3)  (x0 : Int) (x1 : Int) (k : (Int × Int × Bool) → Option ρ) : Option ρ :=
  bif decide (x0 ≥ 0) then k (IntKind.wrap IntKind.u64 x0, x1, false)
  else
    Option.bind (g_Add64 (IntKind.wrap IntKind.u64 (Int.ofNat (BitVec.toNat (BitVec.ofInt 64 18446744073709551615 ^^^ BitVec.ofInt 64 x1)))) 1 0) fun (d : Int × Int) =>
      k (IntKind.wrap IntKind.u64 (IntKind.wrap IntKind.u64 (Int.ofNat (BitVec.toNat (BitVec.ofInt 64 18446744073709551615 ^^^ BitVec.ofInt 64 (IntKind.wrap IntKind.u64 x0)))) + d.snd), d.fst, true)
def f_wide_abs (x0 : Int) (x1 : Int) : Option (Int × Int × Bool) := K_wide_abs f_Add64  x0 x1 some
section
open Go.Ab.Rdr
def QA_wide_abs := ((pair (cons (ar (ra (cons (gc (cf (fi .i64 hole))) (cons (gc (cf (fi .u64 hole))) nil)))) nil) nil) : Rdr (List AV × List Blk) _)
end
def F_wide_abs (f : (Int) → (Int) → Option (Int × Int × Bool)) : Sem1 := fun args h => match (QA_wide_abs).rd (args, h) with
  | some b => .opt (f b.1.1.1 b.1.1.2.1) fun (d : Int × Int × Bool) => .leaf (Res.mk (AV.tup [RV.agg [Sg.c (CV.f (FV.i IntKind.u64 d.fst)), Sg.c (CV.f (FV.i IntKind.u64 d.snd.fst))], RV.c (CV.f (FV.b d.snd.snd))]) [] [])
  | none => .fail
theorem d_wide_abs (g_Add64 : C3)  (x0 : Int) (x1 : Int) : den Try.prog (envOf [(87, F_carry g_Add64)]) ⟨[], [], [], [], none⟩ 200 52 [.r (.agg [.c (.f (.i .i64 x0)), .c (.f (.i .u64 x1))])] [] =
    K_wide_abs g_Add64  x0 x1 (fun (d : Int × Int × Bool) => some (Res.mk (AV.tup [RV.agg [Sg.c (CV.f (FV.i IntKind.u64 d.fst)), Sg.c (CV.f (FV.i IntKind.u64 d.snd.fst))], RV.c (CV.f (FV.b d.snd.snd))]) [] [])) := by kernel_rfl
theorem m_wide_abs {ρ σ : Type} (q : ρ → Option σ) (g_Add64 : C3)   (x0 : Int) (x1 : Int) (k : (Int × Int × Bool) → Option ρ) : (K_wide_abs g_Add64  x0 x1 k).bind q = K_wide_abs g_Add64  x0 x1 (fun d => (k d).bind q) := by
  simp only [K_wide_abs, bnd_cond, bnd_bind, bnd_none, bnd_sum]
theorem qa_wide_abs : ∀ b, (QA_wide_abs).em b = ([.r (.agg [.c (.f (.i .i64 b.1.1.1)), .c (.f (.i .u64 b.1.1.2.1))])], []) := fun b => by kernel_rfl
theorem e_wide_abs {f : (Int) → (Int) → Option (Int × Int × Bool)} {args : List AV} {h : List Blk} {r : Res} (hr : (F_wide_abs f args h).eval = some r) : ∃ x0 x1, args = [.r (.agg [.c (.f (.i .i64 x0)), .c (.f (.i .u64 x1))])] ∧ h = [] ∧ (f x0 x1).bind (fun (d : Int × Int × Bool) => some (Res.mk (AV.tup [RV.agg [Sg.c (CV.f (FV.i IntKind.u64 d.fst)), Sg.c (CV.f (FV.i IntKind.u64 d.snd.fst))], RV.c (CV.f (FV.b d.snd.snd))]) [] [])) = some r := by
  unfold F_wide_abs at hr
  split at hr
  · rename_i b hb
    have e := ((QA_wide_abs).ok _ _ hb).trans (qa_wide_abs b)
    rw [opt_eval2] at hr
    exact ⟨b.1.1.1, b.1.1.2.1, (Prod.mk.inj e).1, (Prod.mk.inj e).2, hr⟩
  · cases hr
theorem n_wide_abs {σ : Type} (q : (Int × Int × Bool) → Option σ) (x0 : Int) (x1 : Int) : (f_wide_abs x0 x1).bind q = K_wide_abs f_Add64  x0 x1 q := by
  unfold f_wide_abs
  exact m_wide_abs q f_Add64   x0 x1 some
theorem s_wide_abs : Sound Try.prog 52 (F_wide_abs f_wide_abs) :=
  (inl_sound (l := [(87, F_carry f_Add64)]) (.cons s_Add64 (.nil _)) mixed [] [] 200 (by kernel_rfl)).by (F := F_wide_abs f_wide_abs) fun args b r hr => by
  obtain ⟨x0, x1, rfl, rfl, hr1⟩ := e_wide_abs hr
  exact inl_eval ((d_wide_abs f_Add64  x0 x1).trans ((n_wide_abs (fun (d : Int × Int × Bool) => some (Res.mk (AV.tup [RV.agg [Sg.c (CV.f (FV.i IntKind.u64 d.fst)), Sg.c (CV.f (FV.i IntKind.u64 d.snd.fst))], RV.c (CV.f (FV.b d.snd.snd))]) [] [])) x0 x1).symm.trans hr1))

def K__wide_big__shl {ρ : Type}   (x0 : Int) (x1 : Int) (x2 : Int) (k : (Int × Int) → Option ρ) : Option ρ :=
  bif decide (x2 ≥ 64) then bif !decide (IntKind.wrap IntKind.i64 (x2 - 64) < 0) then k (IntKind.wrap IntKind.u64 (x1 * 2 ^ min (Int.toNat (IntKind.wrap IntKind.i64 (x2 - 64))) 64), 0) else none
  else
    bif !decide (x2 < 0) then
      bif !decide (IntKind.wrap IntKind.i64 (64 - x2) < 0) then
        bif !decide (x2 < 0) then
          k
            (IntKind.wrap IntKind.u64
                (Int.ofNat
                  (BitVec.toNat
                    (BitVec.ofInt 64 (IntKind.wrap IntKind.u64 (x0 * 2 ^ min (Int.toNat x2) 64)) ||| BitVec.ofInt 64 (Int.fdiv x1 (2 ^ min (Int.toNat (IntKind.wrap IntKind.i64 (64 - x2))) 64))))),
              IntKind.wrap IntKind.u64 (x1 * 2 ^ min (Int.toNat x2) 64))
        else none
      else none
    else none
def f__wide_big__shl (x0 : Int) (x1 : Int) (x2 : Int) : Option (Int × Int) := K__wide_big__shl   x0 x1 x2 some
section
open Go.Ab.Rdr
def QA__wide_big__shl := ((pair (cons (ar (ra (cons (gc (cf (fi .u64 hole))) (cons (gc (cf (fi .u64 hole))) nil)))) (cons (ar (rc (cf (fi .i64 hole)))) nil)) nil) : Rdr (List AV × List Blk) _)
end
def F__wide_big__shl (f : (Int) → (Int) → (Int) → Option (Int × Int)) : Sem1 := fun args h => match (QA__wide_big__shl).rd (args, h) with
  | some b => .opt (f b.1.1.1 b.1.1.2.1 b.1.2.1) fun (d : Int × Int) => .leaf (Res.mk (AV.r (RV.agg [Sg.c (CV.f (FV.i IntKind.u64 d.fst)), Sg.c (CV.f (FV.i IntKind.u64 d.snd))])) [] [])
  | none => .fail
theorem d__wide_big__shl   (x0 : Int) (x1 : Int) (x2 : Int) : den Try.prog (envOf []) ⟨[], [], [], [], none⟩ 200 46 [.r (.agg [.c (.f (.i .u64 x0)), .c (.f (.i .u64 x1))]), .r (.c (.f (.i .i64 x2)))] [] =
    K__wide_big__shl   x0 x1 x2 (fun (d : Int × Int) => some (Res.mk (AV.r (RV.agg [Sg.c (CV.f (FV.i IntKind.u64 d.fst)), Sg.c (CV.f (FV.i IntKind.u64 d.snd))])) [] [])) := by kernel_rfl
theorem m__wide_big__shl {ρ σ : Type} (q : ρ → Option σ)    (x0 : Int) (x1 : Int) (x2 : Int) (k : (Int × Int) → Option ρ) : (K__wide_big__shl   x0 x1 x2 k).bind q = K__wide_big__shl   x0 x1 x2 (fun d => (k d).bind q) := by
  simp only [K__wide_big__shl, bnd_cond, bnd_bind, bnd_none, bnd_sum]
theorem qa__wide_big__shl : ∀ b, (QA__wide_big__shl).em b = ([.r (.agg [.c (.f (.i .u64 b.1.1.1)), .c (.f (.i .u64 b.1.1.2.1))]), .r (.c (.f (.i .i64 b.1.2.1)))], []) := fun b => by kernel_rfl
theorem e__wide_big__shl {f : (Int) → (Int) → (Int) → Option (Int × Int)} {args : List AV} {h : List Blk} {r : Res} (hr : (F__wide_big__shl f args h).eval = some r) : ∃ x0 x1 x2, args = [.r (.agg [.c (.f (.i .u64 x0)), .c (.f (.i .u64 x1))]), .r (.c (.f (.i .i64 x2)))] ∧ h = [] ∧ (f x0 x1 x2).bind (fun (d : Int × Int) => some (Res.mk (AV.r (RV.agg [Sg.c (CV.f (FV.i IntKind.u64 d.fst)), Sg.c (CV.f (FV.i IntKind.u64 d.snd))])) [] [])) = some r := by
  unfold F__wide_big__shl at hr
  split at hr
  · rename_i b hb
    have e := ((QA__wide_big__shl).ok _ _ hb).trans (qa__wide_big__shl b)
    rw [opt_eval2] at hr
    exact ⟨b.1.1.1, b.1.1.2.1, b.1.2.1, (Prod.mk.inj e).1, (Prod.mk.inj e).2, hr⟩
  · cases hr
theorem n__wide_big__shl {σ : Type} (q : (Int × Int) → Option σ) (x0 : Int) (x1 : Int) (x2 : Int) : (f__wide_big__shl x0 x1 x2).bind q = K__wide_big__shl   x0 x1 x2 q := by
  unfold f__wide_big__shl
  exact m__wide_big__shl q    x0 x1 x2 some
theorem s__wide_big__shl : Sound Try.prog 46 (F__wide_big__shl f__wide_big__shl) :=
  (inl_sound (l := []) (.nil _) mixed [] [] 200 (by kernel_rfl)).by (F := F__wide_big__shl f__wide_big__shl) fun args b r hr => by
  obtain ⟨x0, x1, x2, rfl, rfl, hr1⟩ := e__wide_big__shl hr
  exact inl_eval ((d__wide_big__shl   x0 x1 x2).trans ((n__wide_big__shl (fun (d : Int × Int) => some (Res.mk (AV.r (RV.agg [Sg.c (CV.f (FV.i IntKind.u64 d.fst)), Sg.c (CV.f (FV.i IntKind.u64 d.snd))])) [] [])) x0 x1 x2).symm.trans hr1))

def K__wide_big__plus {ρ : Type} (g_Add64 : C3)  (x0 : Int) (x1 : Int) (x2 : Int) (x3 : Int) (k : (Int × Int) → Option ρ) : Option ρ :=
  Option.bind (g_Add64 x1 x3 0) fun (d : Int × Int) => Option.bind (g_Add64 x0 x2 d.snd) fun (d_1 : Int × Int) => k (d_1.fst, d.fst)
def f__wide_big__plus (x0 : Int) (x1 : Int) (x2 : Int) (x3 : Int) : Option (Int × Int) := K__wide_big__plus f_Add64  x0 x1 x2 x3 some
section
open Go.Ab.Rdr
def QA__wide_big__plus := ((pair (cons (ar (ra (cons (gc (cf (fi .u64 hole))) (cons (gc (cf (fi .u64 hole))) nil)))) (cons (ar (ra (cons (gc (cf (fi .u64 hole))) (cons (gc (cf (fi .u64 hole))) nil)))) nil)) nil) : Rdr (List AV × List Blk) _)
end
def F__wide_big__plus (f : (Int) → (Int) → (Int) → (Int) → Option (Int × Int)) : Sem1 := fun args h => match (QA__wide_big__plus).rd (args, h) with
  | some b => .opt (f b.1.1.1 b.1.1.2.1 b.1.2.1.1 b.1.2.1.2.1) fun (d : Int × Int) => .leaf (Res.mk (AV.r (RV.agg [Sg.c (CV.f (FV.i IntKind.u64 d.fst)), Sg.c (CV.f (FV.i IntKind.u64 d.snd))])) [] [])
  | none => .fail
theorem d__wide_big__plus (g_Add64 : C3)  (x0 : Int) (x1 : Int) (x2 : Int) (x3 : Int) : den Try.prog (envOf [(87, F_carry g_Add64)]) ⟨[], [], [], [], none⟩ 200 47 [.r (.agg [.c (.f (.i .u64 x0)), .c (.f (.i .u64 x1))]), .r (.agg [.c (.f (.i .u64 x2)), .c (.f (.i .u64 x3))])] [] =
    K__wide_big__plus g_Add64  x0 x1 x2 x3 (fun (d : Int × Int) => some (Res.mk (AV.r (RV.agg [Sg.c (CV.f (FV.i IntKind.u64 d.fst)), Sg.c (CV.f (FV.i IntKind.u64 d.snd))])) [] [])) := by kernel_rfl
theorem m__wide_big__plus {ρ σ : Type} (q : ρ → Option σ) (g_Add64 : C3)   (x0 : Int) (x1 : Int) (x2 : Int) (x3 : Int) (k : (Int × Int) → Option ρ) : (K__wide_big__plus g_Add64  x0 x1 x2 x3 k).bind q = K__wide_big__plus g_Add64  x0 x1 x2 x3 (fun d => (k d).bind q) := by
  simp only [K__wide_big__plus, bnd_cond, bnd_bind, bnd_none, bnd_sum]
theorem qa__wide_big__plus : ∀ b, (QA__wide_big__plus).em b = ([.r (.agg [.c (.f (.i .u64 b.1.1.1)), .c (.f (.i .u64 b.1.1.2.1))]), .r (.agg [.c (.f (.i .u64 b.1.2.1.1)), .c (.f (.i .u64 b.1.2.1.2.1))])], []) := fun b => by kernel_rfl
theorem e__wide_big__plus {f : (Int) → (Int) → (Int) → (Int) → Option (Int × Int)} {args : List AV} {h : List Blk} {r : Res} (hr : (F__wide_big__plus f args h).eval = some r) : ∃ x0 x1 x2 x3, args = [.r (.agg [.c (.f (.i .u64 x0)), .c (.f (.i .u64 x1))]), .r (.agg [.c (.f (.i .u64 x2)), .c (.f (.i .u64 x3))])] ∧ h = [] ∧ (f x0 x1 x2 x3).bind (fun (d : Int × Int) => some (Res.mk (AV.r (RV.agg [Sg.c (CV.f (FV.i IntKind.u64 d.fst)), Sg.c (CV.f (FV.i IntKind.u64 d.snd))])) [] [])) = some r := by
  unfold F__wide_big__plus at hr
  split at hr
  · rename_i b hb
    have e := ((QA__wide_big__plus).ok _ _ hb).trans (qa__wide_big__plus b)
    rw [opt_eval2] at hr
    exact ⟨b.1.1.1, b.1.1.2.1, b.1.2.1.1, b.1.2.1.2.1, (Prod.mk.inj e).1, (Prod.mk.inj e).2, hr⟩
  · cases hr
theorem n__wide_big__plus {σ : Type} (q : (Int × Int) → Option σ) (x0 : Int) (x1 : Int) (x2 : Int) (x3 : Int) : (f__wide_big__plus x0 x1 x2 x3).bind q = K__wide_big__plus f_Add64  x0 x1 x2 x3 q := by
  unfold f__wide_big__plus
  exact m__wide_big__plus q f_Add64   x0 x1 x2 x3 some
theorem s__wide_big__plus : Sound Try.prog 47 (F__wide_big__plus f__wide_big__plus) :=
  (inl_sound (l := [(87, F_carry f_Add64)]) (.cons s_Add64 (.nil _)) mixed [] [] 200 (by kernel_rfl)).by (F := F__wide_big__plus f__wide_big__plus) fun args b r hr => by
  obtain ⟨x0, x1, x2, x3, rfl, rfl, hr1⟩ := e__wide_big__plus hr
  exact inl_eval ((d__wide_big__plus f_Add64  x0 x1 x2 x3).trans ((n__wide_big__plus (fun (d : Int × Int) => some (Res.mk (AV.r (RV.agg [Sg.c (CV.f (FV.i IntKind.u64 d.fst)), Sg.c (CV.f (FV.i IntKind.u64 d.snd))])) [] [])) x0 x1 x2 x3).symm.trans hr1))

def K__wide_big__shr {ρ : Type}   (x0 : Int) (x1 : Int) (x2 : Int) (k : (Int × Int) → Option ρ) : Option ρ :=
  bif decide (x2 ≥ 64) then bif !decide (IntKind.wrap IntKind.i64 (x2 - 64) < 0) then k (0, Int.fdiv x0 (2 ^ min (Int.toNat (IntKind.wrap IntKind.i64 (x2 - 64))) 64)) else none
  else
    bif !decide (x2 < 0) then
      bif !decide (x2 < 0) then
        bif !decide (IntKind.wrap IntKind.i64 (64 - x2) < 0) then
          k
            (Int.fdiv x0 (2 ^ min (Int.toNat x2) 64),
              IntKind.wrap IntKind.u64
                (Int.ofNat
                  (BitVec.toNat
                    (BitVec.ofInt 64 (Int.fdiv x1 (2 ^ min (Int.toNat x2) 64)) ||| BitVec.ofInt 64 (IntKind.wrap IntKind.u64 (x0 * 2 ^ min (Int.toNat (IntKind.wrap IntKind.i64 (64 - x2))) 64))))))
        else none
      else none
    else none
def f__wide_big__shr (x0 : Int) (x1 : Int) (x2 : Int) : Option (Int × Int) := K__wide_big__shr   x0 x1 x2 some
section
open Go.Ab.Rdr
def QA__wide_big__shr := ((pair (cons (ar (ra (cons (gc (cf (fi .u64 hole))) (cons (gc (cf (fi .u64 hole))) nil)))) (cons (ar (rc (cf (fi .i64 hole)))) nil)) nil) : Rdr (List AV × List Blk) _)
end
def F__wide_big__shr (f : (Int) → (Int) → (Int) → Option (Int × Int)) : Sem1 := fun args h => match (QA__wide_big__shr).rd (args, h) with
  | some b => .opt (f b.1.1.1 b.1.1.2.1 b.1.2.1) fun (d : Int × Int) => .leaf (Res.mk (AV.r (RV.agg [Sg.c (CV.f (FV.i IntKind.u64 d.fst)), Sg.c (CV.f (FV.i IntKind.u64 d.snd))])) [] [])
  | none => .fail
theorem d__wide_big__shr   (x0 : Int) (x1 : Int) (x2 : Int) : den Try.prog (envOf []) ⟨[], [], [], [], none⟩ 200 48 [.r (.agg [.c (.f (.i .u64 x0)), .c (.f (.i .u64 x1))]), .r (.c (.f (.i .i64 x2)))] [] =
    K__wide_big__shr   x0 x1 x2 (fun (d : Int × Int) => some (Res.mk (AV.r (RV.agg [Sg.c (CV.f (FV.i IntKind.u64 d.fst)), Sg.c (CV.f (FV.i IntKind.u64 d.snd))])) [] [])) := by kernel_rfl
theorem m__wide_big__shr {ρ σ : Type} (q : ρ → Option σ)    (x0 : Int) (x1 : Int) (x2 : Int) (k : (Int × Int) → Option ρ) : (K__wide_big__shr   x0 x1 x2 k).bind q = K__wide_big__shr   x0 x1 x2 (fun d => (k d).bind q) := by
  simp only [K__wide_big__shr, bnd_cond, bnd_bind, bnd_none, bnd_sum]
theorem qa__wide_big__shr : ∀ b, (QA__wide_big__shr).em b = ([.r (.agg [.c (.f (.i .u64 b.1.1.1)), .c (.f (.i .u64 b.1.1.2.1))]), .r (.c (.f (.i .i64 b.1.2.1)))], []) := fun b => by kernel_rfl
theorem e__wide_big__shr {f : (Int) → (Int) → (Int) → Option (Int × Int)} {args : List AV} {h : List Blk} {r : Res} (hr : (F__wide_big__shr f args h).eval = some r) : ∃ x0 x1 x2, args = [.r (.agg [.c (.f (.i .u64 x0)), .c (.f (.i .u64 x1))]), .r (.c (.f (.i .i64 x2)))] ∧ h = [] ∧ (f x0 x1 x2).bind (fun (d : Int × Int) => some (Res.mk (AV.r (RV.agg [Sg.c (CV.f (FV.i IntKind.u64 d.fst)), Sg.c (CV.f (FV.i IntKind.u64 d.snd))])) [] [])) = some r := by
  unfold F__wide_big__shr at hr
  split at hr
  · rename_i b hb
    have e := ((QA__wide_big__shr).ok _ _ hb).trans (qa__wide_big__shr b)
    rw [opt_eval2] at hr
    exact ⟨b.1.1.1, b.1.1.2.1, b.1.2.1, (Prod.mk.inj e).1, (Prod.mk.inj e).2, hr⟩
  · cases hr
theorem n__wide_big__shr {σ : Type} (q : (Int × Int) → Option σ) (x0 : Int) (x1 : Int) (x2 : Int) : (f__wide_big__shr x0 x1 x2).bind q = K__wide_big__shr   x0 x1 x2 q := by
  unfold f__wide_big__shr
  exact m__wide_big__shr q    x0 x1 x2 some
theorem s__wide_big__shr : Sound Try.prog 48 (F__wide_big__shr f__wide_big__shr) :=
  (inl_sound (l := []) (.nil _) mixed [] [] 200 (by kernel_rfl)).by (F := F__wide_big__shr f__wide_big__shr) fun args b r hr => by
  obtain ⟨x0, x1, x2, rfl, rfl, hr1⟩ := e__wide_big__shr hr
  exact inl_eval ((d__wide_big__shr   x0 x1 x2).trans ((n__wide_big__shr (fun (d : Int × Int) => some (Res.mk (AV.r (RV.agg [Sg.c (CV.f (FV.i IntKind.u64 d.fst)), Sg.c (CV.f (FV.i IntKind.u64 d.snd))])) [] [])) x0 x1 x2).symm.trans hr1))

def K_wide_signed64 {ρ : Type}   (x0 : Int) (x1 : Int) (x2 : Bool) (k : (Int × Bool) → Option ρ) : Option ρ :=
  bif x0 != 0 then bif x0 != 0 then k (0, false) else bif x2 then k (IntKind.wrap IntKind.i64 (IntKind.wrap IntKind.u64 (0 - x1)), true) else k (IntKind.wrap IntKind.i64 x1, true)
  else
    bif !x2 then
      bif decide (x1 > 9223372036854775807) then
        bif decide (x1 > 9223372036854775807) then k (0, false) else bif x2 then k (IntKind.wrap IntKind.i64 (IntKind.wrap IntKind.u64 (0 - x1)), true) else k (IntKind.wrap IntKind.i64 x1, true)
      else
        bif x2 then
          bif decide (x1 > 9223372036854775808) then k (0, false) else bif x2 then k (IntKind.wrap IntKind.i64 (IntKind.wrap IntKind.u64 (0 - x1)), true) else k (IntKind.wrap IntKind.i64 x1, true)
        else bif x2 then k (IntKind.wrap IntKind.i64 (IntKind.wrap IntKind.u64 (0 - x1)), true) else k (IntKind.wrap IntKind.i64 x1, true)
    else
      bif x2 then
        bif decide (x1 > 9223372036854775808) then k (0, false) else bif x2 then k (IntKind.wrap IntKind.i64 (IntKind.wrap IntKind.u64 (0 - x1)), true) else k (IntKind.wrap IntKind.i64 x1, true)
      else bif x2 then k (IntKind.wrap IntKind.i64 (IntKind.wrap IntKind.u64 (0 - x1)), true) else k (IntKind.wrap IntKind.i64 x1, true)
def f_wide_signed64 (x0 : Int) (x1 : Int) (x2 : Bool) : Option (Int × Bool) := K_wide_signed64   x0 x1 x2 some
section
open Go.Ab.Rdr
def QA_wide_signed64 := ((pair (cons (ar (ra (cons (gc (cf (fi .u64 hole))) (cons (gc (cf (fi .u64 hole))) nil)))) (cons (ar (rc (cf (fb hole)))) nil)) nil) : Rdr (List AV × List Blk) _)
end
def F_wide_signed64 (f : (Int) → (Int) → (Bool) → Option (Int × Bool)) : Sem1 := fun args h => match (QA_wide_signed64).rd (args, h) with
  | some b => .opt (f b.1.1.1 b.1.1.2.1 b.1.2.1) fun (d : Int × Bool) => .leaf (Res.mk (AV.tup [RV.c (CV.f (FV.i IntKind.i64 d.fst)), RV.c (CV.f (FV.b d.snd))]) [] [])
  | none => .fail
theorem d_wide_signed64   (x0 : Int) (x1 : Int) (x2 : Bool) : den Try.prog (envOf []) ⟨[], [], [], [], none⟩ 200 51 [.r (.agg [.c (.f (.i .u64 x0)), .c (.f (.i .u64 x1))]), .r (.c (.f (.b x2)))] [] =
    K_wide_signed64   x0 x1 x2 (fun (d : Int × Bool) => some (Res.mk (AV.tup [RV.c (CV.f (FV.i IntKind.i64 d.fst)), RV.c (CV.f (FV.b d.snd))]) [] [])) := by kernel_rfl
theorem m_wide_signed64 {ρ σ : Type} (q : ρ → Option σ)    (x0 : Int) (x1 : Int) (x2 : Bool) (k : (Int × Bool) → Option ρ) : (K_wide_signed64   x0 x1 x2 k).bind q = K_wide_signed64   x0 x1 x2 (fun d => (k d).bind q) := by
  simp only [K_wide_signed64, bnd_cond, bnd_bind, bnd_none, bnd_sum]
theorem qa_wide_signed64 : ∀ b, (QA_wide_signed64).em b = ([.r (.agg [.c (.f (.i .u64 b.1.1.1)), .c (.f (.i .u64 b.1.1.2.1))]), .r (.c (.f (.b b.1.2.1)))], []) := fun b => by kernel_rfl
theorem e_wide_signed64 {f : (Int) → (Int) → (Bool) → Option (Int × Bool)} {args : List AV} {h : List Blk} {r : Res} (hr : (F_wide_signed64 f args h).eval = some r) : ∃ x0 x1 x2, args = [.r (.agg [.c (.f (.i .u64 x0)), .c (.f (.i .u64 x1))]), .r (.c (.f (.b x2)))] ∧ h = [] ∧ (f x0 x1 x2).bind (fun (d : Int × Bool) => some (Res.mk (AV.tup [RV.c (CV.f (FV.i IntKind.i64 d.fst)), RV.c (CV.f (FV.b d.snd))]) [] [])) = some r := by
  unfold F_wide_signed64 at hr
  split at hr
  · rename_i b hb
    have e := ((QA_wide_signed64).ok _ _ hb).trans (qa_wide_signed64 b)
    rw [opt_eval2] at hr
    exact ⟨b.1.1.1, b.1.1.2.1, b.1.2.1, (Prod.mk.inj e).1, (Prod.mk.inj e).2, hr⟩
  · cases hr
theorem n_wide_signed64 {σ : Type} (q : (Int × Bool) → Option σ) (x0 : Int) (x1 : Int) (x2 : Bool) : (f_wide_signed64 x0 x1 x2).bind q = K_wide_signed64   x0 x1 x2 q := by
  unfold f_wide_signed64
  exact m_wide_signed64 q    x0 x1 x2 some
theorem s_wide_signed64 : Sound Try.prog 51 (F_wide_signed64 f_wide_signed64) :=
  (inl_sound (l := []) (.nil _) mixed [] [] 200 (by kernel_rfl)).by (F := F_wide_signed64 f_wide_signed64) fun args b r hr => by
  obtain ⟨x0, x1, x2, rfl, rfl, hr1⟩ := e_wide_signed64 hr
  exact inl_eval ((d_wide_signed64   x0 x1 x2).trans ((n_wide_signed64 (fun (d : Int × Bool) => some (Res.mk (AV.tup [RV.c (CV.f (FV.i IntKind.i64 d.fst)), RV.c (CV.f (FV.b d.snd))]) [] [])) x0 x1 x2).symm.trans hr1))

def K_wide_Round {ρ : Type} (g_wide_abs : Int → Int → Option (Int × Int × Bool)) (g__wide_big__shl : Int → Int → Int → Option (Int × Int)) (g__wide_big__plus : Int → Int → Int → Int → Option (Int × Int)) (g__wide_big__shr : Int → Int → Int → Option (Int × Int)) (g_wide_signed64 : Int → Int → Bool → Option (Int × Bool))  (x0 : Int) (x1 : Int) (x2 : Int) (k : (Int × Bool) → Option ρ) : Option ρ :=
  bif decide (x2 < 0) then k (0, false)
  else
    bif decide (x2 > 126) then k (0, false)
    else
      Option.bind (g_wide_abs x0 x1) fun (d : Int × Int × Bool) =>
        bif decide (x2 > 0) then
          Option.bind (g__wide_big__shl 0 1 (IntKind.wrap IntKind.i64 (x2 - 1))) fun (d_1 : Int × Int) =>
            Option.bind (g__wide_big__plus d.fst d.snd.fst d_1.fst d_1.snd) fun (d_2 : Int × Int) =>
              Option.bind (g__wide_big__shr d_2.fst d_2.snd x2) fun (d_3 : Int × Int) => Option.bind (g_wide_signed64 d_3.fst d_3.snd d.snd.snd) fun (d : Int × Bool) => k (d.fst, d.snd)
        else Option.bind (g__wide_big__shr d.fst d.snd.fst x2) fun (d_1 : Int × Int) => Option.bind (g_wide_signed64 d_1.fst d_1.snd d.snd.snd) fun (d : Int × Bool) => k (d.fst, d.snd)
def f_wide_Round (x0 : Int) (x1 : Int) (x2 : Int) : Option (Int × Bool) := K_wide_Round f_wide_abs f__wide_big__shl f__wide_big__plus f__wide_big__shr f_wide_signed64  x0 x1 x2 some
section
open Go.Ab.Rdr
def QA_wide_Round := ((pair (cons (ar (ra (cons (gc (cf (fi .i64 hole))) (cons (gc (cf (fi .u64 hole))) nil)))) (cons (ar (rc (cf (fi .i64 hole)))) nil)) nil) : Rdr (List AV × List Blk) _)
end
def F_wide_Round (f : (Int) → (Int) → (Int) → Option (Int × Bool)) : Sem1 := fun args h => match (QA_wide_Round).rd (args, h) with
  | some b => .opt (f b.1.1.1 b.1.1.2.1 b.1.2.1) fun (d : Int × Bool) => .leaf (Res.mk (AV.tup [RV.c (CV.f (FV.i IntKind.i64 d.fst)), RV.c (CV.f (FV.b d.snd))]) [] [])
  | none => .fail
theorem d_wide_Round (g_wide_abs : Int → Int → Option (Int × Int × Bool)) (g__wide_big__shl : Int → Int → Int → Option (Int × Int)) (g__wide_big__plus : Int → Int → Int → Int → Option (Int × Int)) (g__wide_big__shr : Int → Int → Int → Option (Int × Int)) (g_wide_signed64 : Int → Int → Bool → Option (Int × Bool))  (x0 : Int) (x1 : Int) (x2 : Int) : den Try.prog (envOf [(52, F_wide_abs g_wide_abs), (46, F__wide_big__shl g__wide_big__shl), (47, F__wide_big__plus g__wide_big__plus), (48, F__wide_big__shr g__wide_big__shr), (51, F_wide_signed64 g_wide_signed64)]) ⟨[], [], [], [], none⟩ 200 17 [.r (.agg [.c (.f (.i .i64 x0)), .c (.f (.i .u64 x1))]), .r (.c (.f (.i .i64 x2)))] [] =
    K_wide_Round g_wide_abs g__wide_big__shl g__wide_big__plus g__wide_big__shr g_wide_signed64  x0 x1 x2 (fun (d : Int × Bool) => some (Res.mk (AV.tup [RV.c (CV.f (FV.i IntKind.i64 d.fst)), RV.c (CV.f (FV.b d.snd))]) [] [])) := by kernel_rfl
theorem m_wide_Round {ρ σ : Type} (q : ρ → Option σ) (g_wide_abs : Int → Int → Option (Int × Int × Bool)) (g__wide_big__shl : Int → Int → Int → Option (Int × Int)) (g__wide_big__plus : Int → Int → Int → Int → Option (Int × Int)) (g__wide_big__shr : Int → Int → Int → Option (Int × Int)) (g_wide_signed64 : Int → Int → Bool → Option (Int × Bool))   (x0 : Int) (x1 : Int) (x2 : Int) (k : (Int × Bool) → Option ρ) : (K_wide_Round g_wide_abs g__wide_big__shl g__wide_big__plus g__wide_big__shr g_wide_signed64  x0 x1 x2 k).bind q = K_wide_Round g_wide_abs g__wide_big__shl g__wide_big__plus g__wide_big__shr g_wide_signed64  x0 x1 x2 (fun d => (k d).bind q) := by
  simp only [K_wide_Round, bnd_cond, bnd_bind, bnd_none, bnd_sum]
theorem qa_wide_Round : ∀ b, (QA_wide_Round).em b = ([.r (.agg [.c (.f (.i .i64 b.1.1.1)), .c (.f (.i .u64 b.1.1.2.1))]), .r (.c (.f (.i .i64 b.1.2.1)))], []) := fun b => by kernel_rfl
theorem e_wide_Round {f : (Int) → (Int) → (Int) → Option (Int × Bool)} {args : List AV} {h : List Blk} {r : Res} (hr : (F_wide_Round f args h).eval = some r) : ∃ x0 x1 x2, args = [.r (.agg [.c (.f (.i .i64 x0)), .c (.f (.i .u64 x1))]), .r (.c (.f (.i .i64 x2)))] ∧ h = [] ∧ (f x0 x1 x2).bind (fun (d : Int × Bool) => some (Res.mk (AV.tup [RV.c (CV.f (FV.i IntKind.i64 d.fst)), RV.c (CV.f (FV.b d.snd))]) [] [])) = some r := by
  unfold F_wide_Round at hr
  split at hr
  · rename_i b hb
    have e := ((QA_wide_Round).ok _ _ hb).trans (qa_wide_Round b)
    rw [opt_eval2] at hr
    exact ⟨b.1.1.1, b.1.1.2.1, b.1.2.1, (Prod.mk.inj e).1, (Prod.mk.inj e).2, hr⟩
  · cases hr
theorem n_wide_Round {σ : Type} (q : (Int × Bool) → Option σ) (x0 : Int) (x1 : Int) (x2 : Int) : (f_wide_Round x0 x1 x2).bind q = K_wide_Round f_wide_abs f__wide_big__shl f__wide_big__plus f__wide_big__shr f_wide_signed64  x0 x1 x2 q := by
  unfold f_wide_Round
  exact m_wide_Round q f_wide_abs f__wide_big__shl f__wide_big__plus f__wide_big__shr f_wide_signed64   x0 x1 x2 some
theorem s_wide_Round : Sound Try.prog 17 (F_wide_Round f_wide_Round) :=
  (inl_sound (l := [(52, F_wide_abs f_wide_abs), (46, F__wide_big__shl f__wide_big__shl), (47, F__wide_big__plus f__wide_big__plus), (48, F__wide_big__shr f__wide_big__shr), (51, F_wide_signed64 f_wide_signed64)]) (.cons s_wide_abs (.cons s__wide_big__shl (.cons s__wide_big__plus (.cons s__wide_big__shr (.cons s_wide_signed64 (.nil _)))))) mixed [] [] 200 (by kernel_rfl)).by (F := F_wide_Round f_wide_Round) fun args b r hr => by
  obtain ⟨x0, x1, x2, rfl, rfl, hr1⟩ := e_wide_Round hr
  exact inl_eval ((d_wide_Round f_wide_abs f__wide_big__shl f__wide_big__plus f__wide_big__shr f_wide_signed64  x0 x1 x2).trans ((n_wide_Round (fun (d : Int × Bool) => some (Res.mk (AV.tup [RV.c (CV.f (FV.i IntKind.i64 d.fst)), RV.c (CV.f (FV.b d.snd))]) [] [])) x0 x1 x2).symm.trans hr1))

def K_fx_sign {ρ : Type}   (x0 : Bool) (k : (Int) → Option ρ) : Option ρ :=
  bif x0 then k (-1152921504606846976) else k 1152921504606846976
def f_fx_sign (x0 : Bool) : Option (Int) := K_fx_sign   x0 some
section
open Go.Ab.Rdr
def QA_fx_sign := ((pair (cons (ar (rc (cf (fb hole)))) nil) nil) : Rdr (List AV × List Blk) _)
end
def F_fx_sign (f : (Bool) → Option (Int)) : Sem1 := fun args h => match (QA_fx_sign).rd (args, h) with
  | some b => .opt (f b.1.1) fun (d : Int) => .leaf (Res.mk (AV.r (RV.c (CV.f (FV.i IntKind.i64 d)))) [] [])
  | none => .fail
theorem d_fx_sign   (x0 : Bool) : den Try.prog (envOf []) ⟨[], [], [], [], none⟩ 200 113 [.r (.c (.f (.b x0)))] [] =
    K_fx_sign   x0 (fun (d : Int) => some (Res.mk (AV.r (RV.c (CV.f (FV.i IntKind.i64 d)))) [] [])) := by kernel_rfl
theorem m_fx_sign {ρ σ : Type} (q : ρ → Option σ)    (x0 : Bool) (k : (Int) → Option ρ) : (K_fx_sign   x0 k).bind q = K_fx_sign   x0 (fun d => (k d).bind q) := by
  simp only [K_fx_sign, bnd_cond, bnd_bind, bnd_none, bnd_sum]
theorem qa_fx_sign : ∀ b, (QA_fx_sign).em b = ([.r (.c (.f (.b b.1.1)))], []) := fun b => by kernel_rfl
theorem e_fx_sign {f : (Bool) → Option (Int)} {args : List AV} {h : List Blk} {r : Res} (hr : (F_fx_sign f args h).eval = some r) : ∃ x0, args = [.r (.c (.f (.b x0)))] ∧ h = [] ∧ (f x0).bind (fun (d : Int) => some (Res.mk (AV.r (RV.c (CV.f (FV.i IntKind.i64 d)))) [] [])) = some r := by
  unfold F_fx_sign at hr
  split at hr
  · rename_i b hb
    have e := ((QA_fx_sign).ok _ _ hb).trans (qa_fx_sign b)
    rw [opt_eval2] at hr
    exact ⟨b.1.1, (Prod.mk.inj e).1, (Prod.mk.inj e).2, hr⟩
  · cases hr
theorem n_fx_sign {σ : Type} (q : (Int) → Option σ) (x0 : Bool) : (f_fx_sign x0).bind q = K_fx_sign   x0 q := by
  unfold f_fx_sign
  exact m_fx_sign q    x0 some
theorem s_fx_sign : Sound Try.prog 113 (F_fx_sign f_fx_sign) :=
  (inl_sound (l := []) (.nil _) mixed [] [] 200 (by kernel_rfl)).by (F := F_fx_sign f_fx_sign) fun args b r hr => by
  obtain ⟨x0, rfl, rfl, hr1⟩ := e_fx_sign hr
  exact inl_eval ((d_fx_sign   x0).trans ((n_fx_sign (fun (d : Int) => some (Res.mk (AV.r (RV.c (CV.f (FV.i IntKind.i64 d)))) [] [])) x0).symm.trans hr1))

def K___fx_Acc__end {ρ : Type} (g_fx_sign : Bool → Option Int) (g___fx_Acc__Sat : Int → Bool → Option (Int × Bool))  (x0 : Int) (x1 : Bool) (x2 : Bool) (x3 : Bool) (k : (Int × Bool) → Option ρ) : Option ρ :=
  bif !x1 then Option.bind (g_fx_sign x2) fun (d : Int) => k (d, true) else Option.bind (g___fx_Acc__Sat x0 x3) fun (d : Int × Bool) => k (d.fst, d.snd)
def f___fx_Acc__end (x0 : Int) (x1 : Bool) (x2 : Bool) (x3 : Bool) : Option (Int × Bool) := K___fx_Acc__end f_fx_sign f___fx_Acc__Sat  x0 x1 x2 x3 some
section
open Go.Ab.Rdr
def QA___fx_Acc__end := ((pair (cons (ar (rc (cptr (nat 0) (ok' (nat 0)) (nat 1)))) (cons (ar (rc (cf (fi .i64 hole)))) (cons (ar (rc (cf (fb hole)))) (cons (ar (rc (cf (fb hole)))) nil)))) (cons (cons (gc (cf (fb hole))) nil) nil)) : Rdr (List AV × List Blk) _)
end
def F___fx_Acc__end (f : (Int) → (Bool) → (Bool) → (Bool) → Option (Int × Bool)) : Sem1 := fun args h => match (QA___fx_Acc__end).rd (args, h) with
  | some b => .opt (f b.1.2.1 b.1.2.2.1 b.1.2.2.2.1 b.2.1.1) fun (d : Int × Bool) => .leaf (Res.mk (AV.r (RV.c (CV.f (FV.i IntKind.i64 d.fst)))) [Ch.set [Sg.c (CV.f (FV.b d.snd))]] [])
  | none => .fail
theorem d___fx_Acc__end (g_fx_sign : Bool → Option Int) (g___fx_Acc__Sat : Int → Bool → Option (Int × Bool))  (x0 : Int) (x1 : Bool) (x2 : Bool) (x3 : Bool) : den Try.prog (envOf [(113, F_fx_sign g_fx_sign), (91, F___fx_Acc__Sat g___fx_Acc__Sat)]) ⟨[], [], [], [], none⟩ 200 112 [.r (.c (.ptr 0 (.k 0) 1)), .r (.c (.f (.i .i64 x0))), .r (.c (.f (.b x1))), .r (.c (.f (.b x2)))] [[.c (.f (.b x3))]] =
    K___fx_Acc__end g_fx_sign g___fx_Acc__Sat  x0 x1 x2 x3 (fun (d : Int × Bool) => some (Res.mk (AV.r (RV.c (CV.f (FV.i IntKind.i64 d.fst)))) [Ch.set [Sg.c (CV.f (FV.b d.snd))]] [])) := by kernel_rfl
theorem m___fx_Acc__end {ρ σ : Type} (q : ρ → Option σ) (g_fx_sign : Bool → Option Int) (g___fx_Acc__Sat : Int → Bool → Option (Int × Bool))   (x0 : Int) (x1 : Bool) (x2 : Bool) (x3 : Bool) (k : (Int × Bool) → Option ρ) : (K___fx_Acc__end g_fx_sign g___fx_Acc__Sat  x0 x1 x2 x3 k).bind q = K___fx_Acc__end g_fx_sign g___fx_Acc__Sat  x0 x1 x2 x3 (fun d => (k d).bind q) := by
  simp only [K___fx_Acc__end, bnd_cond, bnd_bind, bnd_none, bnd_sum]
theorem qa___fx_Acc__end : ∀ b, (QA___fx_Acc__end).em b = ([.r (.c (.ptr 0 (.k 0) 1)), .r (.c (.f (.i .i64 b.1.2.1))), .r (.c (.f (.b b.1.2.2.1))), .r (.c (.f (.b b.1.2.2.2.1)))], [[.c (.f (.b b.2.1.1))]]) := fun b => by kernel_rfl
theorem e___fx_Acc__end {f : (Int) → (Bool) → (Bool) → (Bool) → Option (Int × Bool)} {args : List AV} {h : List Blk} {r : Res} (hr : (F___fx_Acc__end f args h).eval = some r) : ∃ x0 x1 x2 x3, args = [.r (.c (.ptr 0 (.k 0) 1)), .r (.c (.f (.i .i64 x0))), .r (.c (.f (.b x1))), .r (.c (.f (.b x2)))] ∧ h = [[.c (.f (.b x3))]] ∧ (f x0 x1 x2 x3).bind (fun (d : Int × Bool) => some (Res.mk (AV.r (RV.c (CV.f (FV.i IntKind.i64 d.fst)))) [Ch.set [Sg.c (CV.f (FV.b d.snd))]] [])) = some r := by
  unfold F___fx_Acc__end at hr
  split at hr
  · rename_i b hb
    have e := ((QA___fx_Acc__end).ok _ _ hb).trans (qa___fx_Acc__end b)
    rw [opt_eval2] at hr
    exact ⟨b.1.2.1, b.1.2.2.1, b.1.2.2.2.1, b.2.1.1, (Prod.mk.inj e).1, (Prod.mk.inj e).2, hr⟩
  · cases hr
theorem n___fx_Acc__end {σ : Type} (q : (Int × Bool) → Option σ) (x0 : Int) (x1 : Bool) (x2 : Bool) (x3 : Bool) : (f___fx_Acc__end x0 x1 x2 x3).bind q = K___fx_Acc__end f_fx_sign f___fx_Acc__Sat  x0 x1 x2 x3 q := by
  unfold f___fx_Acc__end
  exact m___fx_Acc__end q f_fx_sign f___fx_Acc__Sat   x0 x1 x2 x3 some
theorem s___fx_Acc__end : Sound Try.prog 112 (F___fx_Acc__end f___fx_Acc__end) :=
  (inl_sound (l := [(113, F_fx_sign f_fx_sign), (91, F___fx_Acc__Sat f___fx_Acc__Sat)]) (.cons s_fx_sign (.cons s___fx_Acc__Sat (.nil _))) mixed [] [] 200 (by kernel_rfl)).by (F := F___fx_Acc__end f___fx_Acc__end) fun args b r hr => by
  obtain ⟨x0, x1, x2, x3, rfl, rfl, hr1⟩ := e___fx_Acc__end hr
  exact inl_eval ((d___fx_Acc__end f_fx_sign f___fx_Acc__Sat  x0 x1 x2 x3).trans ((n___fx_Acc__end (fun (d : Int × Bool) => some (Res.mk (AV.r (RV.c (CV.f (FV.i IntKind.i64 d.fst)))) [Ch.set [Sg.c (CV.f (FV.b d.snd))]] [])) x0 x1 x2 x3).symm.trans hr1))

def S___fx_Acc__Add_0 {ρ : Type} (g___fx_Acc__Sat : Int → Bool → Option (Int × Bool)) (g_wide_Of : Int → Option (Int × Int)) (g_wide_Add : Nat → (Nat → Int) → (Nat → Int) → Bool → Option (Int × Int × Bool)) (g_wide_Round : Int → Int → Int → Option (Int × Bool)) (g___fx_Acc__end : Int → Bool → Bool → Bool → Option (Int × Bool))  (x0 : Nat) (x1 : Bool) (x2 : Int) (x3 : Int) (x4 : Bool) (x5 : Nat) (x6 : Nat → Int) (x7 : Int) (x8 : Int) (c : (Nat × Bool × Int × Int × Bool × Nat × (Nat → Int) × Int × Int) → Option ρ) (x : (Nat × Bool × Int × Int × Bool × Bool × Nat × (Nat → Int) × Int × Int) → Option ρ) : Option ρ :=
  bif decide (x3 < x2) then
    bif inR x3 x0 then
      Option.bind (g___fx_Acc__Sat (x6 (Int.toNat x3)) x4) fun (d : Int × Bool) =>
        Option.bind (g_wide_Of d.fst) fun (d_1 : Int × Int) =>
          Option.bind
            (g_wide_Add 2 (fun (j : Nat) => bif Nat.beq j 1 then d_1.fst else bif Nat.beq j 0 then x7 else x7) (fun (j : Nat) => bif Nat.beq j 1 then d_1.snd else bif Nat.beq j 0 then x8 else x8) true)
            fun (d_2 : Int × Int × Bool) => c (x0, x1, x2, IntKind.wrap IntKind.i64 (x3 + 1), d.snd, x5, x6, d_2.fst, d_2.snd.fst)
    else none
  else x (x0, x1, x2, x3, decide (x3 < x2), x4, x5, x6, x7, x8)
section
open Go.Ab.Rdr
def Q___fx_Acc__Add_0 := (st (cons (ar (rc (cptr (nat 0) (ok' (nat 0)) (nat 1)))) (cons aund (cons aund (cons aund (cons aund (cons (ar (rc (cptr (nat 2) (ok' (nat 0)) (nat 2)))) (cons aund (cons aund (cons aund (cons aund (cons (ar (rc (csl (nat 1) (ok' (nat 0)) (szs hole) (nat 1) hole))) (cons (ar (rc (cf (fi .i64 hole)))) (cons (ar (rc (cf (fi .i64 hole)))) (cons aund (cons aund (cons aund (cons aund (cons aund (cons aund (cons aund (cons aund (cons aund (cons aund (cons aund (cons aund (cons aund (cons aund (cons aund (cons aund (cons aund (cons aund (cons aund (cons aund (cons aund (cons aund (cons aund (cons aund (cons aund (cons aund nil))))))))))))))))))))))))))))))))))))))) (cons (some' (cons (gc (cf (fb hole))) nil)) (cons (some' (cons (ga (szs hole) (cons (ki .i64 hole) nil)) nil)) (cons (some' (cons (gc (cf (fi .i64 hole))) (cons (gc (cf (fi .u64 hole))) nil))) nil))) (cons (nat 0) nil))
end
theorem q___fx_Acc__Add_0 : ∀ b, (Q___fx_Acc__Add_0).em b = St.mk
    [AV.r (RV.c (CV.ptr 0 (Off.k 0) 1)), AV.und, AV.und, AV.und, AV.und, AV.r (RV.c (CV.ptr 2 (Off.k 0) 2)), AV.und, AV.und, AV.und, AV.und, AV.r (RV.c (CV.sl 1 (Off.k 0) (Sz.s b.1.2.2.2.2.2.2.2.2.2.2.1.2.2.1) 1 b.1.2.2.2.2.2.2.2.2.2.2.1.2.2.2.2)),
      AV.r (RV.c (CV.f (FV.i IntKind.i64 b.1.2.2.2.2.2.2.2.2.2.2.2.1))), AV.r (RV.c (CV.f (FV.i IntKind.i64 b.1.2.2.2.2.2.2.2.2.2.2.2.2.1))), AV.und, AV.und, AV.und, AV.und, AV.und, AV.und, AV.und, AV.und, AV.und, AV.und, AV.und, AV.und, AV.und, AV.und,
      AV.und, AV.und, AV.und, AV.und, AV.und, AV.und, AV.und, AV.und, AV.und, AV.und, AV.und, AV.und]
    [some [Sg.c (CV.f (FV.b b.2.1.1.1))], some [Sg.a (Sz.s b.2.1.2.1.1.1) [Col.i IntKind.i64 b.2.1.2.1.1.2.1]], some [Sg.c (CV.f (FV.i IntKind.i64 b.2.1.2.2.1.1)), Sg.c (CV.f (FV.i IntKind.u64 b.2.1.2.2.1.2.1))]] [0] := fun b => by kernel_rfl
def R___fx_Acc__Add_0 (l : ∀ {ρ : Type}, (Nat × Bool × Int × Int × Bool × Nat × (Nat → Int) × Int × Int) → ((Nat × Bool × Int × Int × Bool × Bool × Nat × (Nat → Int) × Int × Int) → Option ρ) → Option ρ) {ρ : Type} (s : St) (K : AX → St → Option ρ) : Option ρ := ((Q___fx_Acc__Add_0).rd s).bind fun b => l (b.1.2.2.2.2.2.2.2.2.2.2.1.2.2.1, b.1.2.2.2.2.2.2.2.2.2.2.1.2.2.2.2, b.1.2.2.2.2.2.2.2.2.2.2.2.1, b.1.2.2.2.2.2.2.2.2.2.2.2.2.1, b.2.1.1.1, b.2.1.2.1.1.1, b.2.1.2.1.1.2.1, b.2.1.2.2.1.1, b.2.1.2.2.1.2.1) (fun d => K (AX.ex 0) (St.mk
  [AV.r (RV.c (CV.ptr 0 (Off.k 0) 1)), AV.und, AV.und, AV.und, AV.und, AV.r (RV.c (CV.ptr 2 (Off.k 0) 2)), AV.und, AV.und, AV.und, AV.und, AV.r (RV.c (CV.sl 1 (Off.k 0) (Sz.s d.fst) 1 d.snd.fst)),
    AV.r (RV.c (CV.f (FV.i IntKind.i64 d.snd.snd.fst))), AV.r (RV.c (CV.f (FV.i IntKind.i64 d.snd.snd.snd.fst))), AV.r (RV.c (CV.f (FV.b d.snd.snd.snd.snd.fst))), AV.und, AV.und, AV.und, AV.und,
    AV.und, AV.und, AV.und, AV.und, AV.und, AV.und, AV.und, AV.und, AV.und, AV.und, AV.und, AV.und, AV.und, AV.und, AV.und, AV.und, AV.und, AV.und, AV.und, AV.und, AV.und]
  [some [Sg.c (CV.f (FV.b d.snd.snd.snd.snd.snd.fst))], some [Sg.a (Sz.s d.snd.snd.snd.snd.snd.snd.fst) [Col.i IntKind.i64 d.snd.snd.snd.snd.snd.snd.snd.fst]],
    some [Sg.c (CV.f (FV.i IntKind.i64 d.snd.snd.snd.snd.snd.snd.snd.snd.fst)), Sg.c (CV.f (FV.i IntKind.u64 d.snd.snd.snd.snd.snd.snd.snd.snd.snd))]]
  [0]))
theorem ms___fx_Acc__Add_0 {ρ σ : Type} (g___fx_Acc__Sat : Int → Bool → Option (Int × Bool)) (g_wide_Of : Int → Option (Int × Int)) (g_wide_Add : Nat → (Nat → Int) → (Nat → Int) → Bool → Option (Int × Int × Bool)) (g_wide_Round : Int → Int → Int → Option (Int × Bool)) (g___fx_Acc__end : Int → Bool → Bool → Bool → Option (Int × Bool))   (q : ρ → Option σ) (x0 : Nat) (x1 : Bool) (x2 : Int) (x3 : Int) (x4 : Bool) (x5 : Nat) (x6 : Nat → Int) (x7 : Int) (x8 : Int) (c : (Nat × Bool × Int × Int × Bool × Nat × (Nat → Int) × Int × Int) → Option ρ) (x : (Nat × Bool × Int × Int × Bool × Bool × Nat × (Nat → Int) × Int × Int) → Option ρ) : (S___fx_Acc__Add_0 g___fx_Acc__Sat g_wide_Of g_wide_Add g_wide_Round g___fx_Acc__end  x0 x1 x2 x3 x4 x5 x6 x7 x8 c x).bind q = S___fx_Acc__Add_0 g___fx_Acc__Sat g_wide_Of g_wide_Add g_wide_Round g___fx_Acc__end  x0 x1 x2 x3 x4 x5 x6 x7 x8 (fun d => (c d).bind q) (fun d => (x d).bind q) := by
  simp only [S___fx_Acc__Add_0, bnd_cond, bnd_bind, bnd_none, bnd_sum]
def L___fx_Acc__Add_0 {ρ : Type} (d : Nat × Bool × Int × Int × Bool × Nat × (Nat → Int) × Int × Int) (k : (Nat × Bool × Int × Int × Bool × Bool × Nat × (Nat → Int) × Int × Int) → Option ρ) : Option ρ := loopK (fun d c x => S___fx_Acc__Add_0 f___fx_Acc__Sat f_wide_Of f_wide_Add f_wide_Round f___fx_Acc__end  d.1 d.2.1 d.2.2.1 d.2.2.2.1 d.2.2.2.2.1 d.2.2.2.2.2.1 d.2.2.2.2.2.2.1 d.2.2.2.2.2.2.2.1 d.2.2.2.2.2.2.2.2 c x) 200 d k
theorem mL___fx_Acc__Add_0 {ρ σ : Type} (q : ρ → Option σ) (d : Nat × Bool × Int × Int × Bool × Nat × (Nat → Int) × Int × Int) (k : (Nat × Bool × Int × Int × Bool × Bool × Nat × (Nat → Int) × Int × Int) → Option ρ) : (L___fx_Acc__Add_0 d k).bind q = L___fx_Acc__Add_0 d fun x => (k x).bind q :=
  loopK_bind q (fun d c x => ms___fx_Acc__Add_0 f___fx_Acc__Sat f_wide_Of f_wide_Add f_wide_Round f___fx_Acc__end   q d.1 d.2.1 d.2.2.1 d.2.2.2.1 d.2.2.2.2.1 d.2.2.2.2.2.1 d.2.2.2.2.2.2.1 d.2.2.2.2.2.2.2.1 d.2.2.2.2.2.2.2.2 c x) k _ d
theorem ds___fx_Acc__Add_0 {ρ : Type} (g___fx_Acc__Sat : Int → Bool → Option (Int × Bool)) (g_wide_Of : Int → Option (Int × Int)) (g_wide_Add : Nat → (Nat → Int) → (Nat → Int) → Bool → Option (Int × Int × Bool)) (g_wide_Round : Int → Int → Int → Option (Int × Bool)) (g___fx_Acc__end : Int → Bool → Bool → Bool → Option (Int × Bool)) (l_0 : ∀ {ρ : Type}, (Nat × Bool × Int × Int × Bool × Nat × (Nat → Int) × Int × Int) → ((Nat × Bool × Int × Int × Bool × Bool × Nat × (Nat → Int) × Int × Int) → Option ρ) → Option ρ) (x0 : Nat) (x1 : Bool) (x2 : Int) (x3 : Int) (x4 : Bool) (x5 : Nat) (x6 : Nat → Int) (x7 : Int) (x8 : Int) (c : St → Option ρ) (K : AX → St → Option ρ) :
    runC Try.prog (envOf [(91, F___fx_Acc__Sat g___fx_Acc__Sat), (16, F_wide_Of g_wide_Of), (20, F_wide_Add g_wide_Add), (17, F_wide_Round g_wide_Round), (112, F___fx_Acc__end g___fx_Acc__end)]) ⟨[⟨3, [1, 2, 3, 4, 6, 7, 8, 9, 13, 14, 15, 16, 17, 18, 19, 20, 21, 22, 23, 24, 25, 26, 27, 28, 29, 30, 31, 32, 33, 34, 35, 36, 37, 38], []⟩], [⟨3, 2, @R___fx_Acc__Add_0 (@l_0)⟩], [0], [], none⟩ (tmpsOf Try.prog 114) 2 200 (loopIn Try.prog 114 3)
      (St.mk
    [AV.r (RV.c (CV.ptr 0 (Off.k 0) 1)), AV.und, AV.und, AV.und, AV.und, AV.r (RV.c (CV.ptr 2 (Off.k 0) 2)), AV.und, AV.und, AV.und, AV.und, AV.r (RV.c (CV.sl 1 (Off.k 0) (Sz.s x0) 1 x1)),
      AV.r (RV.c (CV.f (FV.i IntKind.i64 x2))), AV.r (RV.c (CV.f (FV.i IntKind.i64 x3))), AV.und, AV.und, AV.und, AV.und, AV.und, AV.und, AV.und, AV.und, AV.und, AV.und, AV.und, AV.und, AV.und, AV.und,
      AV.und, AV.und, AV.und, AV.und, AV.und, AV.und, AV.und, AV.und, AV.und, AV.und, AV.und, AV.und]
    [some [Sg.c (CV.f (FV.b x4))], some [Sg.a (Sz.s x5) [Col.i IntKind.i64 x6]], some [Sg.c (CV.f (FV.i IntKind.i64 x7)), Sg.c (CV.f (FV.i IntKind.u64 x8))]] [0])
      (next (fun t => t.head 2 ⟨[⟨3, [1, 2, 3, 4, 6, 7, 8, 9, 13, 14, 15, 16, 17, 18, 19, 20, 21, 22, 23, 24, 25, 26, 27, 28, 29, 30, 31, 32, 33, 34, 35, 36, 37, 38], []⟩], [⟨3, 2, @R___fx_Acc__Add_0 (@l_0)⟩], [0], [], none⟩ (loopIn Try.prog 114 3)) c K) =
    S___fx_Acc__Add_0 g___fx_Acc__Sat g_wide_Of g_wide_Add g_wide_Round g___fx_Acc__end  x0 x1 x2 x3 x4 x5 x6 x7 x8 (fun d => c (St.mk
  [AV.r (RV.c (CV.ptr 0 (Off.k 0) 1)), AV.und, AV.und, AV.und, AV.und, AV.r (RV.c (CV.ptr 2 (Off.k 0) 2)), AV.und, AV.und, AV.und, AV.und, AV.r (RV.c (CV.sl 1 (Off.k 0) (Sz.s d.fst) 1 d.snd.fst)),
    AV.r (RV.c (CV.f (FV.i IntKind.i64 d.snd.snd.fst))), AV.r (RV.c (CV.f (FV.i IntKind.i64 d.snd.snd.snd.fst))), AV.und, AV.und, AV.und, AV.und, AV.und, AV.und, AV.und, AV.und, AV.und, AV.und,
    AV.und, AV.und, AV.und, AV.und, AV.und, AV.und, AV.und, AV.und, AV.und, AV.und, AV.und, AV.und, AV.und, AV.und, AV.und, AV.und]
  [some [Sg.c (CV.f (FV.b d.snd.snd.snd.snd.fst))], some [Sg.a (Sz.s d.snd.snd.snd.snd.snd.fst) [Col.i IntKind.i64 d.snd.snd.snd.snd.snd.snd.fst]],
    some [Sg.c (CV.f (FV.i IntKind.i64 d.snd.snd.snd.snd.snd.snd.snd.fst)), Sg.c (CV.f (FV.i IntKind.u64 d.snd.snd.snd.snd.snd.snd.snd.snd))]]
  [0])) (fun d => K (AX.ex 0) (St.mk
  [AV.r (RV.c (CV.ptr 0 (Off.k 0) 1)), AV.und, AV.und, AV.und, AV.und, AV.r (RV.c (CV.ptr 2 (Off.k 0) 2)), AV.und, AV.und, AV.und, AV.und, AV.r (RV.c (CV.sl 1 (Off.k 0) (Sz.s d.fst) 1 d.snd.fst)),
    AV.r (RV.c (CV.f (FV.i IntKind.i64 d.snd.snd.fst))), AV.r (RV.c (CV.f (FV.i IntKind.i64 d.snd.snd.snd.fst))), AV.r (RV.c (CV.f (FV.b d.snd.snd.snd.snd.fst))), AV.und, AV.und, AV.und, AV.und,
    AV.und, AV.und, AV.und, AV.und, AV.und, AV.und, AV.und, AV.und, AV.und, AV.und, AV.und, AV.und, AV.und, AV.und, AV.und, AV.und, AV.und, AV.und, AV.und, AV.und, AV.und]
  [some [Sg.c (CV.f (FV.b d.snd.snd.snd.snd.snd.fst))], some [Sg.a (Sz.s d.snd.snd.snd.snd.snd.snd.fst) [Col.i IntKind.i64 d.snd.snd.snd.snd.snd.snd.snd.fst]],
    some [Sg.c (CV.f (FV.i IntKind.i64 d.snd.snd.snd.snd.snd.snd.snd.snd.fst)), Sg.c (CV.f (FV.i IntKind.u64 d.snd.snd.snd.snd.snd.snd.snd.snd.snd))]]
  [0])) := by kernel_rfl
theorem it___fx_Acc__Add_0 {ρ : Type} (x0 : Nat) (x1 : Bool) (x2 : Int) (x3 : Int) (x4 : Bool) (x5 : Nat) (x6 : Nat → Int) (x7 : Int) (x8 : Int) (K : AX → St → Option ρ) :
    iter (fun t => t.head 2 ⟨[⟨3, [1, 2, 3, 4, 6, 7, 8, 9, 13, 14, 15, 16, 17, 18, 19, 20, 21, 22, 23, 24, 25, 26, 27, 28, 29, 30, 31, 32, 33, 34, 35, 36, 37, 38], []⟩], [⟨3, 2, @R___fx_Acc__Add_0 (@L___fx_Acc__Add_0)⟩], [0], [], none⟩ (loopIn Try.prog 114 3)) (runC Try.prog (envOf [(91, F___fx_Acc__Sat f___fx_Acc__Sat), (16, F_wide_Of f_wide_Of), (20, F_wide_Add f_wide_Add), (17, F_wide_Round f_wide_Round), (112, F___fx_Acc__end f___fx_Acc__end)]) ⟨[⟨3, [1, 2, 3, 4, 6, 7, 8, 9, 13, 14, 15, 16, 17, 18, 19, 20, 21, 22, 23, 24, 25, 26, 27, 28, 29, 30, 31, 32, 33, 34, 35, 36, 37, 38], []⟩], [⟨3, 2, @R___fx_Acc__Add_0 (@L___fx_Acc__Add_0)⟩], [0], [], none⟩ (tmpsOf Try.prog 114) 2 200 (loopIn Try.prog 114 3)) K 200
      (St.mk
    [AV.r (RV.c (CV.ptr 0 (Off.k 0) 1)), AV.und, AV.und, AV.und, AV.und, AV.r (RV.c (CV.ptr 2 (Off.k 0) 2)), AV.und, AV.und, AV.und, AV.und, AV.r (RV.c (CV.sl 1 (Off.k 0) (Sz.s x0) 1 x1)),
      AV.r (RV.c (CV.f (FV.i IntKind.i64 x2))), AV.r (RV.c (CV.f (FV.i IntKind.i64 x3))), AV.und, AV.und, AV.und, AV.und, AV.und, AV.und, AV.und, AV.und, AV.und, AV.und, AV.und, AV.und, AV.und, AV.und,
      AV.und, AV.und, AV.und, AV.und, AV.und, AV.und, AV.und, AV.und, AV.und, AV.und, AV.und, AV.und]
    [some [Sg.c (CV.f (FV.b x4))], some [Sg.a (Sz.s x5) [Col.i IntKind.i64 x6]], some [Sg.c (CV.f (FV.i IntKind.i64 x7)), Sg.c (CV.f (FV.i IntKind.u64 x8))]] [0]) = L___fx_Acc__Add_0 (x0, x1, x2, x3, x4, x5, x6, x7, x8) (fun d => K (AX.ex 0) (St.mk
  [AV.r (RV.c (CV.ptr 0 (Off.k 0) 1)), AV.und, AV.und, AV.und, AV.und, AV.r (RV.c (CV.ptr 2 (Off.k 0) 2)), AV.und, AV.und, AV.und, AV.und, AV.r (RV.c (CV.sl 1 (Off.k 0) (Sz.s d.fst) 1 d.snd.fst)),
    AV.r (RV.c (CV.f (FV.i IntKind.i64 d.snd.snd.fst))), AV.r (RV.c (CV.f (FV.i IntKind.i64 d.snd.snd.snd.fst))), AV.r (RV.c (CV.f (FV.b d.snd.snd.snd.snd.fst))), AV.und, AV.und, AV.und, AV.und,
    AV.und, AV.und, AV.und, AV.und, AV.und, AV.und, AV.und, AV.und, AV.und, AV.und, AV.und, AV.und, AV.und, AV.und, AV.und, AV.und, AV.und, AV.und, AV.und, AV.und, AV.und]
  [some [Sg.c (CV.f (FV.b d.snd.snd.snd.snd.snd.fst))], some [Sg.a (Sz.s d.snd.snd.snd.snd.snd.snd.fst) [Col.i IntKind.i64 d.snd.snd.snd.snd.snd.snd.snd.fst]],
    some [Sg.c (CV.f (FV.i IntKind.i64 d.snd.snd.snd.snd.snd.snd.snd.snd.fst)), Sg.c (CV.f (FV.i IntKind.u64 d.snd.snd.snd.snd.snd.snd.snd.snd.snd))]]
  [0])) :=
  iter_loopX (emb := fun (d : Nat × Bool × Int × Int × Bool × Nat × (Nat → Int) × Int × Int) => St.mk
  [AV.r (RV.c (CV.ptr 0 (Off.k 0) 1)), AV.und, AV.und, AV.und, AV.und, AV.r (RV.c (CV.ptr 2 (Off.k 0) 2)), AV.und, AV.und, AV.und, AV.und, AV.r (RV.c (CV.sl 1 (Off.k 0) (Sz.s d.fst) 1 d.snd.fst)),
    AV.r (RV.c (CV.f (FV.i IntKind.i64 d.snd.snd.fst))), AV.r (RV.c (CV.f (FV.i IntKind.i64 d.snd.snd.snd.fst))), AV.und, AV.und, AV.und, AV.und, AV.und, AV.und, AV.und, AV.und, AV.und, AV.und,
    AV.und, AV.und, AV.und, AV.und, AV.und, AV.und, AV.und, AV.und, AV.und, AV.und, AV.und, AV.und, AV.und, AV.und, AV.und, AV.und]
  [some [Sg.c (CV.f (FV.b d.snd.snd.snd.snd.fst))], some [Sg.a (Sz.s d.snd.snd.snd.snd.snd.fst) [Col.i IntKind.i64 d.snd.snd.snd.snd.snd.snd.fst]],
    some [Sg.c (CV.f (FV.i IntKind.i64 d.snd.snd.snd.snd.snd.snd.snd.fst)), Sg.c (CV.f (FV.i IntKind.u64 d.snd.snd.snd.snd.snd.snd.snd.snd))]]
  [0]) (step := fun d c x => S___fx_Acc__Add_0 f___fx_Acc__Sat f_wide_Of f_wide_Add f_wide_Round f___fx_Acc__end  d.1 d.2.1 d.2.2.1 d.2.2.2.1 d.2.2.2.2.1 d.2.2.2.2.2.1 d.2.2.2.2.2.2.1 d.2.2.2.2.2.2.2.1 d.2.2.2.2.2.2.2.2 c x) (kx := (fun d => K (AX.ex 0) (St.mk
  [AV.r (RV.c (CV.ptr 0 (Off.k 0) 1)), AV.und, AV.und, AV.und, AV.und, AV.r (RV.c (CV.ptr 2 (Off.k 0) 2)), AV.und, AV.und, AV.und, AV.und, AV.r (RV.c (CV.sl 1 (Off.k 0) (Sz.s d.fst) 1 d.snd.fst)),
    AV.r (RV.c (CV.f (FV.i IntKind.i64 d.snd.snd.fst))), AV.r (RV.c (CV.f (FV.i IntKind.i64 d.snd.snd.snd.fst))), AV.r (RV.c (CV.f (FV.b d.snd.snd.snd.snd.fst))), AV.und, AV.und, AV.und, AV.und,
    AV.und, AV.und, AV.und, AV.und, AV.und, AV.und, AV.und, AV.und, AV.und, AV.und, AV.und, AV.und, AV.und, AV.und, AV.und, AV.und, AV.und, AV.und, AV.und, AV.und, AV.und]
  [some [Sg.c (CV.f (FV.b d.snd.snd.snd.snd.snd.fst))], some [Sg.a (Sz.s d.snd.snd.snd.snd.snd.snd.fst) [Col.i IntKind.i64 d.snd.snd.snd.snd.snd.snd.snd.fst]],
    some [Sg.c (CV.f (FV.i IntKind.i64 d.snd.snd.snd.snd.snd.snd.snd.snd.fst)), Sg.c (CV.f (FV.i IntKind.u64 d.snd.snd.snd.snd.snd.snd.snd.snd.snd))]]
  [0])))
    (fun d c => ds___fx_Acc__Add_0 f___fx_Acc__Sat f_wide_Of f_wide_Add f_wide_Round f___fx_Acc__end (@L___fx_Acc__Add_0) d.1 d.2.1 d.2.2.1 d.2.2.2.1 d.2.2.2.2.1 d.2.2.2.2.2.1 d.2.2.2.2.2.2.1 d.2.2.2.2.2.2.2.1 d.2.2.2.2.2.2.2.2 c K) 200 (x0, x1, x2, x3, x4, x5, x6, x7, x8)
theorem so___fx_Acc__Add_0 : ∀ kk, SumOK Try.prog (envOf [(91, F___fx_Acc__Sat f___fx_Acc__Sat), (16, F_wide_Of f_wide_Of), (20, F_wide_Add f_wide_Add), (17, F_wide_Round f_wide_Round), (112, F___fx_Acc__end f___fx_Acc__end)]) ⟨[⟨3, [1, 2, 3, 4, 6, 7, 8, 9, 13, 14, 15, 16, 17, 18, 19, 20, 21, 22, 23, 24, 25, 26, 27, 28, 29, 30, 31, 32, 33, 34, 35, 36, 37, 38], []⟩], [⟨3, 2, @R___fx_Acc__Add_0 (@L___fx_Acc__Add_0)⟩], [0], [], none⟩ (tmpsOf Try.prog 114) kk 200 (loopIn Try.prog 114 3) :=
  SumOK.of (id := 3) (k0 := 2) (run := @R___fx_Acc__Add_0 (@L___fx_Acc__Add_0)) (by kernel_rfl) fun s K r hr => by
    unfold R___fx_Acc__Add_0 at hr
    obtain ⟨b, hb, hr1⟩ := Option.bind_eq_some_iff.1 hr
    have e := ((Q___fx_Acc__Add_0).ok s b hb).trans (q___fx_Acc__Add_0 b)
    subst e
    exact ⟨200, (it___fx_Acc__Add_0 b.1.2.2.2.2.2.2.2.2.2.2.1.2.2.1 b.1.2.2.2.2.2.2.2.2.2.2.1.2.2.2.2 b.1.2.2.2.2.2.2.2.2.2.2.2.1 b.1.2.2.2.2.2.2.2.2.2.2.2.2.1 b.2.1.1.1 b.2.1.2.1.1.1 b.2.1.2.1.1.2.1 b.2.1.2.2.1.1 b.2.1.2.2.1.2.1 K).trans hr1⟩
def K___fx_Acc__Add {ρ : Type} (g___fx_Acc__Sat : Int → Bool → Option (Int × Bool)) (g_wide_Of : Int → Option (Int × Int)) (g_wide_Add : Nat → (Nat → Int) → (Nat → Int) → Bool → Option (Int × Int × Bool)) (g_wide_Round : Int → Int → Int → Option (Int × Bool)) (g___fx_Acc__end : Int → Bool → Bool → Bool → Option (Int × Bool)) (l_0 : ∀ {ρ : Type}, (Nat × Bool × Int × Int × Bool × Nat × (Nat → Int) × Int × Int) → ((Nat × Bool × Int × Int × Bool × Bool × Nat × (Nat → Int) × Int × Int) → Option ρ) → Option ρ) (x0 : Nat) (x1 : Bool) (x2 : Nat → Int) (w0 : Bool) (k : (Int × Bool) → Option ρ) : Option ρ :=
  l_0 (x0, w0, Int.ofNat x0, 0, x1, x0, x2, 0, 0) fun (d : Nat × Bool × Int × Int × Bool × Bool × Nat × (Nat → Int) × Int × Int) =>
    Option.bind (g_wide_Round d.snd.snd.snd.snd.snd.snd.snd.snd.fst d.snd.snd.snd.snd.snd.snd.snd.snd.snd 0) fun (d_1 : Int × Bool) =>
      Option.bind (g___fx_Acc__end d_1.fst d_1.snd (decide (d.snd.snd.snd.snd.snd.snd.snd.snd.fst < 0)) d.snd.snd.snd.snd.snd.fst) fun (d : Int × Bool) => k (d.fst, d.snd)
def f___fx_Acc__Add (x0 : Nat) (x1 : Bool) (x2 : Nat → Int) (w0 : Bool) : Option (Int × Bool) := K___fx_Acc__Add f___fx_Acc__Sat f_wide_Of f_wide_Add f_wide_Round f___fx_Acc__end (@L___fx_Acc__Add_0) x0 x1 x2 w0 some
section
open Go.Ab.Rdr
def QA___fx_Acc__Add := ((pair (cons (ar (rc (cptr (nat 0) (ok' (nat 0)) (nat 1)))) (cons (ar (rc (csl (nat 1) (ok' (nat 0)) (szs hole) (nat 1) hole))) nil)) (cons (cons (gc (cf (fb hole))) nil) (cons (cons (ga (szs hole) (cons (ki .i64 hole) nil)) nil) nil))) : Rdr (List AV × List Blk) _)
end
def F0___fx_Acc__Add (f : (Nat) → (Bool) → (Nat → Int) → (Bool) → Option (Int × Bool)) : Sem1 := fun args h => match (QA___fx_Acc__Add).rd (args, h) with
  | some b => .test (Nat.beq b.2.2.1.1.1 b.1.2.1.2.2.1) (.opt (f b.1.2.1.2.2.1 b.2.1.1 b.2.2.1.1.2.1 b.1.2.1.2.2.2.2) fun (d : Int × Bool) => .leaf (Res.mk (AV.r (RV.c (CV.f (FV.i IntKind.i64 d.fst)))) [Ch.set [Sg.c (CV.f (FV.b d.snd))], Ch.keep] [])) .fail
  | none => .fail
def F___fx_Acc__Add (f : (Nat) → (Bool) → (Nat → Int) → (Bool) → Option (Int × Bool)) : Sem1 := (nilF 1 [.i .i64] (F0___fx_Acc__Add f))
theorem d___fx_Acc__Add (g___fx_Acc__Sat : Int → Bool → Option (Int × Bool)) (g_wide_Of : Int → Option (Int × Int)) (g_wide_Add : Nat → (Nat → Int) → (Nat → Int) → Bool → Option (Int × Int × Bool)) (g_wide_Round : Int → Int → Int → Option (Int × Bool)) (g___fx_Acc__end : Int → Bool → Bool → Bool → Option (Int × Bool)) (l_0 : ∀ {ρ : Type}, (Nat × Bool × Int × Int × Bool × Nat × (Nat → Int) × Int × Int) → ((Nat × Bool × Int × Int × Bool × Bool × Nat × (Nat → Int) × Int × Int) → Option ρ) → Option ρ) (x0 : Nat) (x1 : Bool) (x2 : Nat → Int) (w0 : Bool) : den Try.prog (envOf [(91, F___fx_Acc__Sat g___fx_Acc__Sat), (16, F_wide_Of g_wide_Of), (20, F_wide_Add g_wide_Add), (17, F_wide_Round g_wide_Round), (112, F___fx_Acc__end g___fx_Acc__end)]) ⟨[⟨3, [1, 2, 3, 4, 6, 7, 8, 9, 13, 14, 15, 16, 17, 18, 19, 20, 21, 22, 23, 24, 25, 26, 27, 28, 29, 30, 31, 32, 33, 34, 35, 36, 37, 38], []⟩], [⟨3, 2, @R___fx_Acc__Add_0 (@l_0)⟩], [0], [], none⟩ 200 114 [.r (.c (.ptr 0 (.k 0) 1)), .r (.c (.sl 1 (.k 0) (.s x0) 1 w0))] [[.c (.f (.b x1))], [.a (.s x0) [.i .i64 x2]]] =
    K___fx_Acc__Add g___fx_Acc__Sat g_wide_Of g_wide_Add g_wide_Round g___fx_Acc__end (@l_0) x0 x1 x2 w0 (fun (d : Int × Bool) => some (Res.mk (AV.r (RV.c (CV.f (FV.i IntKind.i64 d.fst)))) [Ch.set [Sg.c (CV.f (FV.b d.snd))], Ch.keep] [])) := by kernel_rfl
theorem m___fx_Acc__Add {ρ σ : Type} (q : ρ → Option σ) (g___fx_Acc__Sat : Int → Bool → Option (Int × Bool)) (g_wide_Of : Int → Option (Int × Int)) (g_wide_Add : Nat → (Nat → Int) → (Nat → Int) → Bool → Option (Int × Int × Bool)) (g_wide_Round : Int → Int → Int → Option (Int × Bool)) (g___fx_Acc__end : Int → Bool → Bool → Bool → Option (Int × Bool)) (l_0 : ∀ {ρ : Type}, (Nat × Bool × Int × Int × Bool × Nat × (Nat → Int) × Int × Int) → ((Nat × Bool × Int × Int × Bool × Bool × Nat × (Nat → Int) × Int × Int) → Option ρ) → Option ρ) (hl_0 : ∀ {ρ σ : Type} (q : ρ → Option σ) (d : Nat × Bool × Int × Int × Bool × Nat × (Nat → Int) × Int × Int) (k : (Nat × Bool × Int × Int × Bool × Bool × Nat × (Nat → Int) × Int × Int) → Option ρ), (l_0 d k).bind q = l_0 d fun x => (k x).bind q) (x0 : Nat) (x1 : Bool) (x2 : Nat → Int) (w0 : Bool) (k : (Int × Bool) → Option ρ) : (K___fx_Acc__Add g___fx_Acc__Sat g_wide_Of g_wide_Add g_wide_Round g___fx_Acc__end (@l_0) x0 x1 x2 w0 k).bind q = K___fx_Acc__Add g___fx_Acc__Sat g_wide_Of g_wide_Add g_wide_Round g___fx_Acc__end (@l_0) x0 x1 x2 w0 (fun d => (k d).bind q) := by
  simp only [K___fx_Acc__Add, bnd_cond, bnd_bind, bnd_none, bnd_sum, hl_0]
theorem qa___fx_Acc__Add : ∀ b, (QA___fx_Acc__Add).em b = ([.r (.c (.ptr 0 (.k 0) 1)), .r (.c (.sl 1 (.k 0) (.s b.1.2.1.2.2.1) 1 b.1.2.1.2.2.2.2))], [[.c (.f (.b b.2.1.1))], [.a (.s b.2.2.1.1.1) [.i .i64 b.2.2.1.1.2.1]]]) := fun b => by kernel_rfl
theorem e___fx_Acc__Add {f : (Nat) → (Bool) → (Nat → Int) → (Bool) → Option (Int × Bool)} {args : List AV} {h : List Blk} {r : Res} (hr : (F0___fx_Acc__Add f args h).eval = some r) : ∃ x0 x1 x2 w0, args = [.r (.c (.ptr 0 (.k 0) 1)), .r (.c (.sl 1 (.k 0) (.s x0) 1 w0))] ∧ h = [[.c (.f (.b x1))], [.a (.s x0) [.i .i64 x2]]] ∧ (f x0 x1 x2 w0).bind (fun (d : Int × Bool) => some (Res.mk (AV.r (RV.c (CV.f (FV.i IntKind.i64 d.fst)))) [Ch.set [Sg.c (CV.f (FV.b d.snd))], Ch.keep] [])) = some r := by
  unfold F0___fx_Acc__Add at hr
  split at hr
  · rename_i b hb
    have e := ((QA___fx_Acc__Add).ok _ _ hb).trans (qa___fx_Acc__Add b)
    obtain ⟨he, hr1⟩ := test_eval hr
    clear hr
    have hr := hr1
    clear hr1
    rw [Nat.eq_of_beq_eq_true he] at e
    clear he
    rw [opt_eval2] at hr
    exact ⟨b.1.2.1.2.2.1, b.2.1.1, b.2.2.1.1.2.1, b.1.2.1.2.2.2.2, (Prod.mk.inj e).1, (Prod.mk.inj e).2, hr⟩
  · cases hr
theorem n___fx_Acc__Add {σ : Type} (q : (Int × Bool) → Option σ) (x0 : Nat) (x1 : Bool) (x2 : Nat → Int) (w0 : Bool) : (f___fx_Acc__Add x0 x1 x2 w0).bind q = K___fx_Acc__Add f___fx_Acc__Sat f_wide_Of f_wide_Add f_wide_Round f___fx_Acc__end (@L___fx_Acc__Add_0) x0 x1 x2 w0 q := by
  unfold f___fx_Acc__Add
  exact m___fx_Acc__Add q f___fx_Acc__Sat f_wide_Of f_wide_Add f_wide_Round f___fx_Acc__end (@L___fx_Acc__Add_0) (fun q d k => mL___fx_Acc__Add_0 q d k) x0 x1 x2 w0 some
theorem s___fx_Acc__Add : Sound Try.prog 114 (F___fx_Acc__Add f___fx_Acc__Add) :=
  Sound.nil 1 [.i .i64] <| (inl_sums (l := [(91, F___fx_Acc__Sat f___fx_Acc__Sat), (16, F_wide_Of f_wide_Of), (20, F_wide_Add f_wide_Add), (17, F_wide_Round f_wide_Round), (112, F___fx_Acc__end f___fx_Acc__end)]) (.cons s___fx_Acc__Sat (.cons s_wide_Of (.cons s_wide_Add (.cons s_wide_Round (.cons s___fx_Acc__end (.nil _)))))) mixed (hs := ⟨[⟨3, [1, 2, 3, 4, 6, 7, 8, 9, 13, 14, 15, 16, 17, 18, 19, 20, 21, 22, 23, 24, 25, 26, 27, 28, 29, 30, 31, 32, 33, 34, 35, 36, 37, 38], []⟩], [⟨3, 2, @R___fx_Acc__Add_0 (@L___fx_Acc__Add_0)⟩], [0], [], none⟩) (lf := 200) (Sums.by (l := [loopIn Try.prog 114 3]) (lj := []) (by kernel_rfl) ⟨so___fx_Acc__Add_0, trivial⟩ (by kernel_rfl) trivial) (by kernel_rfl)).by (F := F0___fx_Acc__Add f___fx_Acc__Add) fun args b r hr => by
  obtain ⟨x0, x1, x2, w0, rfl, rfl, hr1⟩ := e___fx_Acc__Add hr
  exact inl_eval ((d___fx_Acc__Add f___fx_Acc__Sat f_wide_Of f_wide_Add f_wide_Round f___fx_Acc__end (@L___fx_Acc__Add_0) x0 x1 x2 w0).trans ((n___fx_Acc__Add (fun (d : Int × Bool) => some (Res.mk (AV.r (RV.c (CV.f (FV.i IntKind.i64 d.fst)))) [Ch.set [Sg.c (CV.f (FV.b d.snd))], Ch.keep] [])) x0 x1 x2 w0).symm.trans hr1))

end Go.Proofs.Ytcalippagaaikaa
end
/-
  Contracts by plain functions: wide.abs64, math/bits.Mul64, wide.signed, wide.Mul, (*fx.Acc).round, (*fx.Acc).Mul
-/
section
set_option maxRecDepth 100000
set_option maxHeartbeats 4000000
set_option linter.unusedVariables false
namespace Go.Proofs.Ytcalippagaaikaa
open Go.Ab
def K_wide_abs64 {ρ : Type}   (x0 : Int) (k : (Int) → Option ρ) : Option ρ :=
  bif decide (x0 < 0) then k (IntKind.wrap IntKind.u64 (0 - IntKind.wrap IntKind.u64 x0)) else k (IntKind.wrap IntKind.u64 x0)
def f_wide_abs64 (x0 : Int) : Option (Int) := K_wide_abs64   x0 some
section
open Go.Ab.Rdr
def QA_wide_abs64 := ((pair (cons (ar (rc (cf (fi .i64 hole)))) nil) nil) : Rdr (List AV × List Blk) _)
end
def F_wide_abs64 (f : (Int) → Option (Int)) : Sem1 := fun args h => match (QA_wide_abs64).rd (args, h) with
  | some b => .opt (f b.1.1) fun (d : Int) => .leaf (Res.mk (AV.r (RV.c (CV.f (FV.i IntKind.u64 d)))) [] [])
  | none => .fail
theorem d_wide_abs64   (x0 : Int) : den Try.prog (envOf []) ⟨[], [], [], [], none⟩ 200 53 [.r (.c (.f (.i .i64 x0)))] [] =
    K_wide_abs64   x0 (fun (d : Int) => some (Res.mk (AV.r (RV.c (CV.f (FV.i IntKind.u64 d)))) [] [])) := by kernel_rfl
theorem m_wide_abs64 {ρ σ : Type} (q : ρ → Option σ)    (x0 : Int) (k : (Int) → Option ρ) : (K_wide_abs64   x0 k).bind q = K_wide_abs64   x0 (fun d => (k d).bind q) := by
  simp only [K_wide_abs64, bnd_cond, bnd_bind, bnd_none, bnd_sum]
theorem qa_wide_abs64 : ∀ b, (QA_wide_abs64).em b = ([.r (.c (.f (.i .i64 b.1.1)))], []) := fun b => by kernel_rfl
theorem e_wide_abs64 {f : (Int) → Option (Int)} {args : List AV} {h : List Blk} {r : Res} (hr : (F_wide_abs64 f args h).eval = some r) : ∃ x0, args = [.r (.c (.f (.i .i64 x0)))] ∧ h = [] ∧ (f x0).bind (fun (d : Int) => some (Res.mk (AV.r (RV.c (CV.f (FV.i IntKind.u64 d)))) [] [])) = some r := by
  unfold F_wide_abs64 at hr
  split at hr
  · rename_i b hb
    have e := ((QA_wide_abs64).ok _ _ hb).trans (qa_wide_abs64 b)
    rw [opt_eval2] at hr
    exact ⟨b.1.1, (Prod.mk.inj e).1, (Prod.mk.inj e).2, hr⟩
  · cases hr
theorem n_wide_abs64 {σ : Type} (q : (Int) → Option σ) (x0 : Int) : (f_wide_abs64 x0).bind q = K_wide_abs64   x0 q := by
  unfold f_wide_abs64
  exact m_wide_abs64 q    x0 some
theorem s_wide_abs64 : Sound Try.prog 53 (F_wide_abs64 f_wide_abs64) :=
  (inl_sound (l := []) (.nil _) mixed [] [] 200 (by kernel_rfl)).by (F := F_wide_abs64 f_wide_abs64) fun args b r hr => by
  obtain ⟨x0, rfl, rfl, hr1⟩ := e_wide_abs64 hr
  exact inl_eval ((d_wide_abs64   x0).trans ((n_wide_abs64 (fun (d : Int) => some (Res.mk (AV.r (RV.c (CV.f (FV.i IntKind.u64 d)))) [] [])) x0).symm.trans hr1))

def K_math_bits_Mul64 {ρ : Type}   (x0 : Int) (x1 : Int) (k : (Int × Int) → Option ρ) : Option ρ :=
  k
    (IntKind.wrap IntKind.u64
        (IntKind.wrap IntKind.u64
            (IntKind.wrap IntKind.u64 (Int.fdiv x0 4294967296 * Int.fdiv x1 4294967296) +
              Int.fdiv
                (IntKind.wrap IntKind.u64
                  (IntKind.wrap IntKind.u64 (Int.fdiv x0 4294967296 * IntKind.wrap IntKind.u64 (Int.ofNat (BitVec.toNat (BitVec.ofInt 64 x1 &&& BitVec.ofInt 64 4294967295)))) +
                    Int.fdiv
                      (IntKind.wrap IntKind.u64
                        (IntKind.wrap IntKind.u64 (Int.ofNat (BitVec.toNat (BitVec.ofInt 64 x0 &&& BitVec.ofInt 64 4294967295))) *
                          IntKind.wrap IntKind.u64 (Int.ofNat (BitVec.toNat (BitVec.ofInt 64 x1 &&& BitVec.ofInt 64 4294967295)))))
                      4294967296))
                4294967296) +
          Int.fdiv
            (IntKind.wrap IntKind.u64
              (IntKind.wrap IntKind.u64
                  (Int.ofNat
                    (BitVec.toNat
                      (BitVec.ofInt 64
                          (IntKind.wrap IntKind.u64
                            (IntKind.wrap IntKind.u64 (Int.fdiv x0 4294967296 * IntKind.wrap IntKind.u64 (Int.ofNat (BitVec.toNat (BitVec.ofInt 64 x1 &&& BitVec.ofInt 64 4294967295)))) +
                              Int.fdiv
                                (IntKind.wrap IntKind.u64
                                  (IntKind.wrap IntKind.u64 (Int.ofNat (BitVec.toNat (BitVec.ofInt 64 x0 &&& BitVec.ofInt 64 4294967295))) *
                                    IntKind.wrap IntKind.u64 (Int.ofNat (BitVec.toNat (BitVec.ofInt 64 x1 &&& BitVec.ofInt 64 4294967295)))))
                                4294967296)) &&&
                        BitVec.ofInt 64 4294967295))) +
                IntKind.wrap IntKind.u64 (IntKind.wrap IntKind.u64 (Int.ofNat (BitVec.toNat (BitVec.ofInt 64 x0 &&& BitVec.ofInt 64 4294967295))) * Int.fdiv x1 4294967296)))
            4294967296),
      IntKind.wrap IntKind.u64 (x0 * x1))
def f_math_bits_Mul64 (x0 : Int) (x1 : Int) : Option (Int × Int) := K_math_bits_Mul64   x0 x1 some
section
open Go.Ab.Rdr
def QA_math_bits_Mul64 := ((pair (cons (ar (rc (cf (fi .u64 hole)))) (cons (ar (rc (cf (fi .u64 hole)))) nil)) nil) : Rdr (List AV × List Blk) _)
end
def F_math_bits_Mul64 (f : (Int) → (Int) → Option (Int × Int)) : Sem1 := fun args h => match (QA_math_bits_Mul64).rd (args, h) with
  | some b => .opt (f b.1.1 b.1.2.1) fun (d : Int × Int) => .leaf (Res.mk (AV.tup [RV.c (CV.f (FV.i IntKind.u64 d.fst)), RV.c (CV.f (FV.i IntKind.u64 d.snd))]) [] [])
  | none => .fail
theorem d_math_bits_Mul64   (x0 : Int) (x1 : Int) : den Try.prog (envOf []) ⟨[], [], [], [], none⟩ 200 59 [.r (.c (.f (.i .u64 x0))), .r (.c (.f (.i .u64 x1)))] [] =
    K_math_bits_Mul64   x0 x1 (fun (d : Int × Int) => some (Res.mk (AV.tup [RV.c (CV.f (FV.i IntKind.u64 d.fst)), RV.c (CV.f (FV.i IntKind.u64 d.snd))]) [] [])) := by kernel_rfl
theorem m_math_bits_Mul64 {ρ σ : Type} (q : ρ → Option σ)    (x0 : Int) (x1 : Int) (k : (Int × Int) → Option ρ) : (K_math_bits_Mul64   x0 x1 k).bind q = K_math_bits_Mul64   x0 x1 (fun d => (k d).bind q) := by
  simp only [K_math_bits_Mul64, bnd_cond, bnd_bind, bnd_none, bnd_sum]
theorem qa_math_bits_Mul64 : ∀ b, (QA_math_bits_Mul64).em b = ([.r (.c (.f (.i .u64 b.1.1))), .r (.c (.f (.i .u64 b.1.2.1)))], []) := fun b => by kernel_rfl
theorem e_math_bits_Mul64 {f : (Int) → (Int) → Option (Int × Int)} {args : List AV} {h : List Blk} {r : Res} (hr : (F_math_bits_Mul64 f args h).eval = some r) : ∃ x0 x1, args = [.r (.c (.f (.i .u64 x0))), .r (.c (.f (.i .u64 x1)))] ∧ h = [] ∧ (f x0 x1).bind (fun (d : Int × Int) => some (Res.mk (AV.tup [RV.c (CV.f (FV.i IntKind.u64 d.fst)), RV.c (CV.f (FV.i IntKind.u64 d.snd))]) [] [])) = some r := by
  unfold F_math_bits_Mul64 at hr
  split at hr
  · rename_i b hb
    have e := ((QA_math_bits_Mul64).ok _ _ hb).trans (qa_math_bits_Mul64 b)
    rw [opt_eval2] at hr
    exact ⟨b.1.1, b.1.2.1, (Prod.mk.inj e).1, (Prod.mk.inj e).2, hr⟩
  · cases hr
theorem n_math_bits_Mul64 {σ : Type} (q : (Int × Int) → Option σ) (x0 : Int) (x1 : Int) : (f_math_bits_Mul64 x0 x1).bind q = K_math_bits_Mul64   x0 x1 q := by
  unfold f_math_bits_Mul64
  exact m_math_bits_Mul64 q    x0 x1 some
theorem s_math_bits_Mul64 : Sound Try.prog 59 (F_math_bits_Mul64 f_math_bits_Mul64) :=
  (inl_sound (l := []) (.nil _) mixed [] [] 200 (by kernel_rfl)).by (F := F_math_bits_Mul64 f_math_bits_Mul64) fun args b r hr => by
  obtain ⟨x0, x1, rfl, rfl, hr1⟩ := e_math_bits_Mul64 hr
  exact inl_eval ((d_math_bits_Mul64   x0 x1).trans ((n_math_bits_Mul64 (fun (d : Int × Int) => some (Res.mk (AV.tup [RV.c (CV.f (FV.i IntKind.u64 d.fst)), RV.c (CV.f (FV.i IntKind.u64 d.snd))]) [] [])) x0 x1).symm.trans hr1))

def K_wide_signed {ρ : Type} (g_Add64 : C3)  (x0 : Int) (x1 : Int) (x2 : Bool) (k : (Int × Int × Bool) → Option ρ) : Option ρ :=
  bif !x2 then k (IntKind.wrap IntKind.i64 x0, x1, Int.fdiv x0 9223372036854775808 == 0)
  else
    Option.bind (g_Add64 (IntKind.wrap IntKind.u64 (Int.ofNat (BitVec.toNat (BitVec.ofInt 64 18446744073709551615 ^^^ BitVec.ofInt 64 x1)))) 1 0) fun (d : Int × Int) =>
      bif
          decide
            (IntKind.wrap IntKind.i64 (IntKind.wrap IntKind.u64 (IntKind.wrap IntKind.u64 (Int.ofNat (BitVec.toNat (BitVec.ofInt 64 18446744073709551615 ^^^ BitVec.ofInt 64 x0))) + d.snd)) < 0) then
        k (IntKind.wrap IntKind.i64 (IntKind.wrap IntKind.u64 (IntKind.wrap IntKind.u64 (Int.ofNat (BitVec.toNat (BitVec.ofInt 64 18446744073709551615 ^^^ BitVec.ofInt 64 x0))) + d.snd)), d.fst, true)
      else
        k
          (IntKind.wrap IntKind.i64 (IntKind.wrap IntKind.u64 (IntKind.wrap IntKind.u64 (Int.ofNat (BitVec.toNat (BitVec.ofInt 64 18446744073709551615 ^^^ BitVec.ofInt 64 x0))) + d.snd)), d.fst,
            x0 == 0 && (x1 == 0 && true))
def f_wide_signed (x0 : Int) (x1 : Int) (x2 : Bool) : Option (Int × Int × Bool) := K_wide_signed f_Add64  x0 x1 x2 some
section
open Go.Ab.Rdr
def QA_wide_signed := ((pair (cons (ar (ra (cons (gc (cf (fi .u64 hole))) (cons (gc (cf (fi .u64 hole))) nil)))) (cons (ar (rc (cf (fb hole)))) nil)) nil) : Rdr (List AV × List Blk) _)
end
def F_wide_signed (f : (Int) → (Int) → (Bool) → Option (Int × Int × Bool)) : Sem1 := fun args h => match (QA_wide_signed).rd (args, h) with
  | some b => .opt (f b.1.1.1 b.1.1.2.1 b.1.2.1) fun (d : Int × Int × Bool) => .leaf (Res.mk (AV.tup [RV.agg [Sg.c (CV.f (FV.i IntKind.i64 d.fst)), Sg.c (CV.f (FV.i IntKind.u64 d.snd.fst))], RV.c (CV.f (FV.b d.snd.snd))]) [] [])
  | none => .fail
theorem d_wide_signed (g_Add64 : C3)  (x0 : Int) (x1 : Int) (x2 : Bool) : den Try.prog (envOf [(87, F_carry g_Add64)]) ⟨[], [], [], [], none⟩ 200 55 [.r (.agg [.c (.f (.i .u64 x0)), .c (.f (.i .u64 x1))]), .r (.c (.f (.b x2)))] [] =
    K_wide_signed g_Add64  x0 x1 x2 (fun (d : Int × Int × Bool) => some (Res.mk (AV.tup [RV.agg [Sg.c (CV.f (FV.i IntKind.i64 d.fst)), Sg.c (CV.f (FV.i IntKind.u64 d.snd.fst))], RV.c (CV.f (FV.b d.snd.snd))]) [] [])) := by kernel_rfl
theorem m_wide_signed {ρ σ : Type} (q : ρ → Option σ) (g_Add64 : C3)   (x0 : Int) (x1 : Int) (x2 : Bool) (k : (Int × Int × Bool) → Option ρ) : (K_wide_signed g_Add64  x0 x1 x2 k).bind q = K_wide_signed g_Add64  x0 x1 x2 (fun d => (k d).bind q) := by
  simp only [K_wide_signed, bnd_cond, bnd_bind, bnd_none, bnd_sum]
theorem qa_wide_signed : ∀ b, (QA_wide_signed).em b = ([.r (.agg [.c (.f (.i .u64 b.1.1.1)), .c (.f (.i .u64 b.1.1.2.1))]), .r (.c (.f (.b b.1.2.1)))], []) := fun b => by kernel_rfl
theorem e_wide_signed {f : (Int) → (Int) → (Bool) → Option (Int × Int × Bool)} {args : List AV} {h : List Blk} {r : Res} (hr : (F_wide_signed f args h).eval = some r) : ∃ x0 x1 x2, args = [.r (.agg [.c (.f (.i .u64 x0)), .c (.f (.i .u64 x1))]), .r (.c (.f (.b x2)))] ∧ h = [] ∧ (f x0 x1 x2).bind (fun (d : Int × Int × Bool) => some (Res.mk (AV.tup [RV.agg [Sg.c (CV.f (FV.i IntKind.i64 d.fst)), Sg.c (CV.f (FV.i IntKind.u64 d.snd.fst))], RV.c (CV.f (FV.b d.snd.snd))]) [] [])) = some r := by
  unfold F_wide_signed at hr
  split at hr
  · rename_i b hb
    have e := ((QA_wide_signed).ok _ _ hb).trans (qa_wide_signed b)
    rw [opt_eval2] at hr
    exact ⟨b.1.1.1, b.1.1.2.1, b.1.2.1, (Prod.mk.inj e).1, (Prod.mk.inj e).2, hr⟩
  · cases hr
theorem n_wide_signed {σ : Type} (q : (Int × Int × Bool) → Option σ) (x0 : Int) (x1 : Int) (x2 : Bool) : (f_wide_signed x0 x1 x2).bind q = K_wide_signed f_Add64  x0 x1 x2 q := by
  unfold f_wide_signed
  exact m_wide_signed q f_Add64   x0 x1 x2 some
theorem s_wide_signed : Sound Try.prog 55 (F_wide_signed f_wide_signed) :=
  (inl_sound (l := [(87, F_carry f_Add64)]) (.cons s_Add64 (.nil _)) mixed [] [] 200 (by kernel_rfl)).by (F := F_wide_signed f_wide_signed) fun args b r hr => by
  obtain ⟨x0, x1, x2, rfl, rfl, hr1⟩ := e_wide_signed hr
  exact inl_eval ((d_wide_signed f_Add64  x0 x1 x2).trans ((n_wide_signed (fun (d : Int × Int × Bool) => some (Res.mk (AV.tup [RV.agg [Sg.c (CV.f (FV.i IntKind.i64 d.fst)), Sg.c (CV.f (FV.i IntKind.u64 d.snd.fst))], RV.c (CV.f (FV.b d.snd.snd))]) [] [])) x0 x1 x2).symm.trans hr1))

def K_wide_Mul {ρ : Type} (g_wide_abs64 : Int → Option Int) (g_math_bits_Mul64 : Int → Int → Option (Int × Int)) (g_wide_signed : Int → Int → Bool → Option (Int × Int × Bool))  (x0 : Int) (x1 : Int) (k : (Int × Int) → Option ρ) : Option ρ :=
  Option.bind (g_wide_abs64 x0) fun (d : Int) =>
    Option.bind (g_wide_abs64 x1) fun (d_1 : Int) =>
      Option.bind (g_math_bits_Mul64 d d_1) fun (d : Int × Int) => Option.bind (g_wide_signed d.fst d.snd !decide (x0 < 0) == decide (x1 < 0)) fun (d : Int × Int × Bool) => k (d.fst, d.snd.fst)
def f_wide_Mul (x0 : Int) (x1 : Int) : Option (Int × Int) := K_wide_Mul f_wide_abs64 f_math_bits_Mul64 f_wide_signed  x0 x1 some
section
open Go.Ab.Rdr
def QA_wide_Mul := ((pair (cons (ar (rc (cf (fi .i64 hole)))) (cons (ar (rc (cf (fi .i64 hole)))) nil)) nil) : Rdr (List AV × List Blk) _)
end
def F_wide_Mul (f : (Int) → (Int) → Option (Int × Int)) : Sem1 := fun args h => match (QA_wide_Mul).rd (args, h) with
  | some b => .opt (f b.1.1 b.1.2.1) fun (d : Int × Int) => .leaf (Res.mk (AV.r (RV.agg [Sg.c (CV.f (FV.i IntKind.i64 d.fst)), Sg.c (CV.f (FV.i IntKind.u64 d.snd))])) [] [])
  | none => .fail
theorem d_wide_Mul (g_wide_abs64 : Int → Option Int) (g_math_bits_Mul64 : Int → Int → Option (Int × Int)) (g_wide_signed : Int → Int → Bool → Option (Int × Int × Bool))  (x0 : Int) (x1 : Int) : den Try.prog (envOf [(53, F_wide_abs64 g_wide_abs64), (59, F_math_bits_Mul64 g_math_bits_Mul64), (55, F_wide_signed g_wide_signed)]) ⟨[], [], [], [], none⟩ 200 23 [.r (.c (.f (.i .i64 x0))), .r (.c (.f (.i .i64 x1)))] [] =
    K_wide_Mul g_wide_abs64 g_math_bits_Mul64 g_wide_signed  x0 x1 (fun (d : Int × Int) => some (Res.mk (AV.r (RV.agg [Sg.c (CV.f (FV.i IntKind.i64 d.fst)), Sg.c (CV.f (FV.i IntKind.u64 d.snd))])) [] [])) := by kernel_rfl
theorem m_wide_Mul {ρ σ : Type} (q : ρ → Option σ) (g_wide_abs64 : Int → Option Int) (g_math_bits_Mul64 : Int → Int → Option (Int × Int)) (g_wide_signed : Int → Int → Bool → Option (Int × Int × Bool))   (x0 : Int) (x1 : Int) (k : (Int × Int) → Option ρ) : (K_wide_Mul g_wide_abs64 g_math_bits_Mul64 g_wide_signed  x0 x1 k).bind q = K_wide_Mul g_wide_abs64 g_math_bits_Mul64 g_wide_signed  x0 x1 (fun d => (k d).bind q) := by
  simp only [K_wide_Mul, bnd_cond, bnd_bind, bnd_none, bnd_sum]
theorem qa_wide_Mul : ∀ b, (QA_wide_Mul).em b = ([.r (.c (.f (.i .i64 b.1.1))), .r (.c (.f (.i .i64 b.1.2.1)))], []) := fun b => by kernel_rfl
theorem e_wide_Mul {f : (Int) → (Int) → Option (Int × Int)} {args : List AV} {h : List Blk} {r : Res} (hr : (F_wide_Mul f args h).eval = some r) : ∃ x0 x1, args = [.r (.c (.f (.i .i64 x0))), .r (.c (.f (.i .i64 x1)))] ∧ h = [] ∧ (f x0 x1).bind (fun (d : Int × Int) => some (Res.mk (AV.r (RV.agg [Sg.c (CV.f (FV.i IntKind.i64 d.fst)), Sg.c (CV.f (FV.i IntKind.u64 d.snd))])) [] [])) = some r := by
  unfold F_wide_Mul at hr
  split at hr
  · rename_i b hb
    have e := ((QA_wide_Mul).ok _ _ hb).trans (qa_wide_Mul b)
    rw [opt_eval2] at hr
    exact ⟨b.1.1, b.1.2.1, (Prod.mk.inj e).1, (Prod.mk.inj e).2, hr⟩
  · cases hr
theorem n_wide_Mul {σ : Type} (q : (Int × Int) → Option σ) (x0 : Int) (x1 : Int) : (f_wide_Mul x0 x1).bind q = K_wide_Mul f_wide_abs64 f_math_bits_Mul64 f_wide_signed  x0 x1 q := by
  unfold f_wide_Mul
  exact m_wide_Mul q f_wide_abs64 f_math_bits_Mul64 f_wide_signed   x0 x1 some
theorem s_wide_Mul : Sound Try.prog 23 (F_wide_Mul f_wide_Mul) :=
  (inl_sound (l := [(53, F_wide_abs64 f_wide_abs64), (59, F_math_bits_Mul64 f_math_bits_Mul64), (55, F_wide_signed f_wide_signed)]) (.cons s_wide_abs64 (.cons s_math_bits_Mul64 (.cons s_wide_signed (.nil _)))) mixed [] [] 200 (by kernel_rfl)).by (F := F_wide_Mul f_wide_Mul) fun args b r hr => by
  obtain ⟨x0, x1, rfl, rfl, hr1⟩ := e_wide_Mul hr
  exact inl_eval ((d_wide_Mul f_wide_abs64 f_math_bits_Mul64 f_wide_signed  x0 x1).trans ((n_wide_Mul (fun (d : Int × Int) => some (Res.mk (AV.r (RV.agg [Sg.c (CV.f (FV.i IntKind.i64 d.fst)), Sg.c (CV.f (FV.i IntKind.u64 d.snd))])) [] [])) x0 x1).symm.trans hr1))

def K___fx_Acc__round {ρ : Type} (g_wide_Round : Int → Int → Int → Option (Int × Bool)) (g___fx_Acc__end : Int → Bool → Bool → Bool → Option (Int × Bool))  (x0 : Int) (x1 : Int) (x2 : Int) (x3 : Bool) (k : (Int × Bool) → Option ρ) : Option ρ :=
  bif decide (x2 < 0) then k (0, true)
  else
    bif decide (x2 > 120) then k (0, true)
    else Option.bind (g_wide_Round x0 x1 x2) fun (d : Int × Bool) => Option.bind (g___fx_Acc__end d.fst d.snd (decide (x0 < 0)) x3) fun (d : Int × Bool) => k (d.fst, d.snd)
def f___fx_Acc__round (x0 : Int) (x1 : Int) (x2 : Int) (x3 : Bool) : Option (Int × Bool) := K___fx_Acc__round f_wide_Round f___fx_Acc__end  x0 x1 x2 x3 some
section
open Go.Ab.Rdr
def QA___fx_Acc__round := ((pair (cons (ar (rc (cptr (nat 0) (ok' (nat 0)) (nat 1)))) (cons (ar (ra (cons (gc (cf (fi .i64 hole))) (cons (gc (cf (fi .u64 hole))) nil)))) (cons (ar (rc (cf (fi .i64 hole)))) nil))) (cons (cons (gc (cf (fb hole))) nil) nil)) : Rdr (List AV × List Blk) _)
end
def F___fx_Acc__round (f : (Int) → (Int) → (Int) → (Bool) → Option (Int × Bool)) : Sem1 := fun args h => match (QA___fx_Acc__round).rd (args, h) with
  | some b => .opt (f b.1.2.1.1 b.1.2.1.2.1 b.1.2.2.1 b.2.1.1) fun (d : Int × Bool) => .leaf (Res.mk (AV.r (RV.c (CV.f (FV.i IntKind.i64 d.fst)))) [Ch.set [Sg.c (CV.f (FV.b d.snd))]] [])
  | none => .fail
theorem d___fx_Acc__round (g_wide_Round : Int → Int → Int → Option (Int × Bool)) (g___fx_Acc__end : Int → Bool → Bool → Bool → Option (Int × Bool))  (x0 : Int) (x1 : Int) (x2 : Int) (x3 : Bool) : den Try.prog (envOf [(17, F_wide_Round g_wide_Round), (112, F___fx_Acc__end g___fx_Acc__end)]) ⟨[], [], [], [], none⟩ 200 92 [.r (.c (.ptr 0 (.k 0) 1)), .r (.agg [.c (.f (.i .i64 x0)), .c (.f (.i .u64 x1))]), .r (.c (.f (.i .i64 x2)))] [[.c (.f (.b x3))]] =
    K___fx_Acc__round g_wide_Round g___fx_Acc__end  x0 x1 x2 x3 (fun (d : Int × Bool) => some (Res.mk (AV.r (RV.c (CV.f (FV.i IntKind.i64 d.fst)))) [Ch.set [Sg.c (CV.f (FV.b d.snd))]] [])) := by kernel_rfl
theorem m___fx_Acc__round {ρ σ : Type} (q : ρ → Option σ) (g_wide_Round : Int → Int → Int → Option (Int × Bool)) (g___fx_Acc__end : Int → Bool → Bool → Bool → Option (Int × Bool))   (x0 : Int) (x1 : Int) (x2 : Int) (x3 : Bool) (k : (Int × Bool) → Option ρ) : (K___fx_Acc__round g_wide_Round g___fx_Acc__end  x0 x1 x2 x3 k).bind q = K___fx_Acc__round g_wide_Round g___fx_Acc__end  x0 x1 x2 x3 (fun d => (k d).bind q) := by
  simp only [K___fx_Acc__round, bnd_cond, bnd_bind, bnd_none, bnd_sum]
theorem qa___fx_Acc__round : ∀ b, (QA___fx_Acc__round).em b = ([.r (.c (.ptr 0 (.k 0) 1)), .r (.agg [.c (.f (.i .i64 b.1.2.1.1)), .c (.f (.i .u64 b.1.2.1.2.1))]), .r (.c (.f (.i .i64 b.1.2.2.1)))], [[.c (.f (.b b.2.1.1))]]) := fun b => by kernel_rfl
theorem e___fx_Acc__round {f : (Int) → (Int) → (Int) → (Bool) → Option (Int × Bool)} {args : List AV} {h : List Blk} {r : Res} (hr : (F___fx_Acc__round f args h).eval = some r) : ∃ x0 x1 x2 x3, args = [.r (.c (.ptr 0 (.k 0) 1)), .r (.agg [.c (.f (.i .i64 x0)), .c (.f (.i .u64 x1))]), .r (.c (.f (.i .i64 x2)))] ∧ h = [[.c (.f (.b x3))]] ∧ (f x0 x1 x2 x3).bind (fun (d : Int × Bool) => some (Res.mk (AV.r (RV.c (CV.f (FV.i IntKind.i64 d.fst)))) [Ch.set [Sg.c (CV.f (FV.b d.snd))]] [])) = some r := by
  unfold F___fx_Acc__round at hr
  split at hr
  · rename_i b hb
    have e := ((QA___fx_Acc__round).ok _ _ hb).trans (qa___fx_Acc__round b)
    rw [opt_eval2] at hr
    exact ⟨b.1.2.1.1, b.1.2.1.2.1, b.1.2.2.1, b.2.1.1, (Prod.mk.inj e).1, (Prod.mk.inj e).2, hr⟩
  · cases hr
theorem n___fx_Acc__round {σ : Type} (q : (Int × Bool) → Option σ) (x0 : Int) (x1 : Int) (x2 : Int) (x3 : Bool) : (f___fx_Acc__round x0 x1 x2 x3).bind q = K___fx_Acc__round f_wide_Round f___fx_Acc__end  x0 x1 x2 x3 q := by
  unfold f___fx_Acc__round
  exact m___fx_Acc__round q f_wide_Round f___fx_Acc__end   x0 x1 x2 x3 some
theorem s___fx_Acc__round : Sound Try.prog 92 (F___fx_Acc__round f___fx_Acc__round) :=
  (inl_sound (l := [(17, F_wide_Round f_wide_Round), (112, F___fx_Acc__end f___fx_Acc__end)]) (.cons s_wide_Round (.cons s___fx_Acc__end (.nil _))) mixed [] [] 200 (by kernel_rfl)).by (F := F___fx_Acc__round f___fx_Acc__round) fun args b r hr => by
  obtain ⟨x0, x1, x2, x3, rfl, rfl, hr1⟩ := e___fx_Acc__round hr
  exact inl_eval ((d___fx_Acc__round f_wide_Round f___fx_Acc__end  x0 x1 x2 x3).trans ((n___fx_Acc__round (fun (d : Int × Bool) => some (Res.mk (AV.r (RV.c (CV.f (FV.i IntKind.i64 d.fst)))) [Ch.set [Sg.c (CV.f (FV.b d.snd))]] [])) x0 x1 x2 x3).symm.trans hr1))

def K___fx_Acc__Mul {ρ : Type} (g___fx_Acc__Sat : Int → Bool → Option (Int × Bool)) (g_wide_Mul : Int → Int → Option (Int × Int)) (g___fx_Acc__round : Int → Int → Int → Bool → Option (Int × Bool))  (x0 : Int) (x1 : Int) (x2 : Int) (x3 : Bool) (k : (Int × Bool) → Option ρ) : Option ρ :=
  Option.bind (g___fx_Acc__Sat x0 x3) fun (d : Int × Bool) =>
    Option.bind (g___fx_Acc__Sat x1 d.snd) fun (d_1 : Int × Bool) =>
      Option.bind (g_wide_Mul d.fst d_1.fst) fun (d : Int × Int) => Option.bind (g___fx_Acc__round d.fst d.snd x2 d_1.snd) fun (d : Int × Bool) => k (d.fst, d.snd)
def f___fx_Acc__Mul (x0 : Int) (x1 : Int) (x2 : Int) (x3 : Bool) : Option (Int × Bool) := K___fx_Acc__Mul f___fx_Acc__Sat f_wide_Mul f___fx_Acc__round  x0 x1 x2 x3 some
section
open Go.Ab.Rdr
def QA___fx_Acc__Mul := ((pair (cons (ar (rc (cptr (nat 0) (ok' (nat 0)) (nat 1)))) (cons (ar (rc (cf (fi .i64 hole)))) (cons (ar (rc (cf (fi .i64 hole)))) (cons (ar (rc (cf (fi .i64 hole)))) nil)))) (cons (cons (gc (cf (fb hole))) nil) nil)) : Rdr (List AV × List Blk) _)
end
def F___fx_Acc__Mul (f : (Int) → (Int) → (Int) → (Bool) → Option (Int × Bool)) : Sem1 := fun args h => match (QA___fx_Acc__Mul).rd (args, h) with
  | some b => .opt (f b.1.2.1 b.1.2.2.1 b.1.2.2.2.1 b.2.1.1) fun (d : Int × Bool) => .leaf (Res.mk (AV.r (RV.c (CV.f (FV.i IntKind.i64 d.fst)))) [Ch.set [Sg.c (CV.f (FV.b d.snd))]] [])
  | none => .fail
theorem d___fx_Acc__Mul (g___fx_Acc__Sat : Int → Bool → Option (Int × Bool)) (g_wide_Mul : Int → Int → Option (Int × Int)) (g___fx_Acc__round : Int → Int → Int → Bool → Option (Int × Bool))  (x0 : Int) (x1 : Int) (x2 : Int) (x3 : Bool) : den Try.prog (envOf [(91, F___fx_Acc__Sat g___fx_Acc__Sat), (23, F_wide_Mul g_wide_Mul), (92, F___fx_Acc__round g___fx_Acc__round)]) ⟨[], [], [], [], none⟩ 200 67 [.r (.c (.ptr 0 (.k 0) 1)), .r (.c (.f (.i .i64 x0))), .r (.c (.f (.i .i64 x1))), .r (.c (.f (.i .i64 x2)))] [[.c (.f (.b x3))]] =
    K___fx_Acc__Mul g___fx_Acc__Sat g_wide_Mul g___fx_Acc__round  x0 x1 x2 x3 (fun (d : Int × Bool) => some (Res.mk (AV.r (RV.c (CV.f (FV.i IntKind.i64 d.fst)))) [Ch.set [Sg.c (CV.f (FV.b d.snd))]] [])) := by kernel_rfl
theorem m___fx_Acc__Mul {ρ σ : Type} (q : ρ → Option σ) (g___fx_Acc__Sat : Int → Bool → Option (Int × Bool)) (g_wide_Mul : Int → Int → Option (Int × Int)) (g___fx_Acc__round : Int → Int → Int → Bool → Option (Int × Bool))   (x0 : Int) (x1 : Int) (x2 : Int) (x3 : Bool) (k : (Int × Bool) → Option ρ) : (K___fx_Acc__Mul g___fx_Acc__Sat g_wide_Mul g___fx_Acc__round  x0 x1 x2 x3 k).bind q = K___fx_Acc__Mul g___fx_Acc__Sat g_wide_Mul g___fx_Acc__round  x0 x1 x2 x3 (fun d => (k d).bind q) := by
  simp only [K___fx_Acc__Mul, bnd_cond, bnd_bind, bnd_none, bnd_sum]
theorem qa___fx_Acc__Mul : ∀ b, (QA___fx_Acc__Mul).em b = ([.r (.c (.ptr 0 (.k 0) 1)), .r (.c (.f (.i .i64 b.1.2.1))), .r (.c (.f (.i .i64 b.1.2.2.1))), .r (.c (.f (.i .i64 b.1.2.2.2.1)))], [[.c (.f (.b b.2.1.1))]]) := fun b => by kernel_rfl
theorem e___fx_Acc__Mul {f : (Int) → (Int) → (Int) → (Bool) → Option (Int × Bool)} {args : List AV} {h : List Blk} {r : Res} (hr : (F___fx_Acc__Mul f args h).eval = some r) : ∃ x0 x1 x2 x3, args = [.r (.c (.ptr 0 (.k 0) 1)), .r (.c (.f (.i .i64 x0))), .r (.c (.f (.i .i64 x1))), .r (.c (.f (.i .i64 x2)))] ∧ h = [[.c (.f (.b x3))]] ∧ (f x0 x1 x2 x3).bind (fun (d : Int × Bool) => some (Res.mk (AV.r (RV.c (CV.f (FV.i IntKind.i64 d.fst)))) [Ch.set [Sg.c (CV.f (FV.b d.snd))]] [])) = some r := by
  unfold F___fx_Acc__Mul at hr
  split at hr
  · rename_i b hb
    have e := ((QA___fx_Acc__Mul).ok _ _ hb).trans (qa___fx_Acc__Mul b)
    rw [opt_eval2] at hr
    exact ⟨b.1.2.1, b.1.2.2.1, b.1.2.2.2.1, b.2.1.1, (Prod.mk.inj e).1, (Prod.mk.inj e).2, hr⟩
  · cases hr
theorem n___fx_Acc__Mul {σ : Type} (q : (Int × Bool) → Option σ) (x0 : Int) (x1 : Int) (x2 : Int) (x3 : Bool) : (f___fx_Acc__Mul x0 x1 x2 x3).bind q = K___fx_Acc__Mul f___fx_Acc__Sat f_wide_Mul f___fx_Acc__round  x0 x1 x2 x3 q := by
  unfold f___fx_Acc__Mul
  exact m___fx_Acc__Mul q f___fx_Acc__Sat f_wide_Mul f___fx_Acc__round   x0 x1 x2 x3 some
theorem s___fx_Acc__Mul : Sound Try.prog 67 (F___fx_Acc__Mul f___fx_Acc__Mul) :=
  (inl_sound (l := [(91, F___fx_Acc__Sat f___fx_Acc__Sat), (23, F_wide_Mul f_wide_Mul), (92, F___fx_Acc__round f___fx_Acc__round)]) (.cons s___fx_Acc__Sat (.cons s_wide_Mul (.cons s___fx_Acc__round (.nil _)))) mixed [] [] 200 (by kernel_rfl)).by (F := F___fx_Acc__Mul f___fx_Acc__Mul) fun args b r hr => by
  obtain ⟨x0, x1, x2, x3, rfl, rfl, hr1⟩ := e___fx_Acc__Mul hr
  exact inl_eval ((d___fx_Acc__Mul f___fx_Acc__Sat f_wide_Mul f___fx_Acc__round  x0 x1 x2 x3).trans ((n___fx_Acc__Mul (fun (d : Int × Bool) => some (Res.mk (AV.r (RV.c (CV.f (FV.i IntKind.i64 d.fst)))) [Ch.set [Sg.c (CV.f (FV.b d.snd))]] [])) x0 x1 x2 x3).symm.trans hr1))

end Go.Proofs.Ytcalippagaaikaa
end
/-
  The carries of math/bits, as they stand in the program.
-/
section
namespace Go.Proofs.Ytcalippagaaikaa
open Go.Ab
theorem s_Sub64 : Sound Try.prog 88 (F_carry f_Sub64) := carry_of (sub64_sound (fn := Try.f88) Try.func88 (by kernel_rfl) (by kernel_rfl) (by kernel_rfl) (by kernel_rfl))
end Go.Proofs.Ytcalippagaaikaa
end
/-
  Contracts by plain functions: (wide.big).less, (wide.big).minus, wide.Root, wide.Neg, wide.Shift, wide.Cmp
-/
section
set_option maxRecDepth 100000
set_option maxHeartbeats 4000000
set_option linter.unusedVariables false
namespace Go.Proofs.Ytcalippagaaikaa
open Go.Ab
def K__wide_big__less {ρ : Type}   (x0 : Int) (x1 : Int) (x2 : Int) (x3 : Int) (k : (Bool) → Option ρ) : Option ρ :=
  bif decide (x0 < x2) then k true else bif x0 == x2 then k (decide (x1 < x3)) else k false
def f__wide_big__less (x0 : Int) (x1 : Int) (x2 : Int) (x3 : Int) : Option (Bool) := K__wide_big__less   x0 x1 x2 x3 some
section
open Go.Ab.Rdr
def QA__wide_big__less := ((pair (cons (ar (ra (cons (gc (cf (fi .u64 hole))) (cons (gc (cf (fi .u64 hole))) nil)))) (cons (ar (ra (cons (gc (cf (fi .u64 hole))) (cons (gc (cf (fi .u64 hole))) nil)))) nil)) nil) : Rdr (List AV × List Blk) _)
end
def F__wide_big__less (f : (Int) → (Int) → (Int) → (Int) → Option (Bool)) : Sem1 := fun args h => match (QA__wide_big__less).rd (args, h) with
  | some b => .opt (f b.1.1.1 b.1.1.2.1 b.1.2.1.1 b.1.2.1.2.1) fun (d : Bool) => .leaf (Res.mk (AV.r (RV.c (CV.f (FV.b d)))) [] [])
  | none => .fail
theorem d__wide_big__less   (x0 : Int) (x1 : Int) (x2 : Int) (x3 : Int) : den Try.prog (envOf []) ⟨[], [], [], [], none⟩ 200 49 [.r (.agg [.c (.f (.i .u64 x0)), .c (.f (.i .u64 x1))]), .r (.agg [.c (.f (.i .u64 x2)), .c (.f (.i .u64 x3))])] [] =
    K__wide_big__less   x0 x1 x2 x3 (fun (d : Bool) => some (Res.mk (AV.r (RV.c (CV.f (FV.b d)))) [] [])) := by kernel_rfl
theorem m__wide_big__less {ρ σ : Type} (q : ρ → Option σ)    (x0 : Int) (x1 : Int) (x2 : Int) (x3 : Int) (k : (Bool) → Option ρ) : (K__wide_big__less   x0 x1 x2 x3 k).bind q = K__wide_big__less   x0 x1 x2 x3 (fun d => (k d).bind q) := by
  simp only [K__wide_big__less, bnd_cond, bnd_bind, bnd_none, bnd_sum]
theorem qa__wide_big__less : ∀ b, (QA__wide_big__less).em b = ([.r (.agg [.c (.f (.i .u64 b.1.1.1)), .c (.f (.i .u64 b.1.1.2.1))]), .r (.agg [.c (.f (.i .u64 b.1.2.1.1)), .c (.f (.i .u64 b.1.2.1.2.1))])], []) := fun b => by kernel_rfl
theorem e__wide_big__less {f : (Int) → (Int) → (Int) → (Int) → Option (Bool)} {args : List AV} {h : List Blk} {r : Res} (hr : (F__wide_big__less f args h).eval = some r) : ∃ x0 x1 x2 x3, args = [.r (.agg [.c (.f (.i .u64 x0)), .c (.f (.i .u64 x1))]), .r (.agg [.c (.f (.i .u64 x2)), .c (.f (.i .u64 x3))])] ∧ h = [] ∧ (f x0 x1 x2 x3).bind (fun (d : Bool) => some (Res.mk (AV.r (RV.c (CV.f (FV.b d)))) [] [])) = some r := by
  unfold F__wide_big__less at hr
  split at hr
  · rename_i b hb
    have e := ((QA__wide_big__less).ok _ _ hb).trans (qa__wide_big__less b)
    rw [opt_eval2] at hr
    exact ⟨b.1.1.1, b.1.1.2.1, b.1.2.1.1, b.1.2.1.2.1, (Prod.mk.inj e).1, (Prod.mk.inj e).2, hr⟩
  · cases hr
theorem n__wide_big__less {σ : Type} (q : (Bool) → Option σ) (x0 : Int) (x1 : Int) (x2 : Int) (x3 : Int) : (f__wide_big__less x0 x1 x2 x3).bind q = K__wide_big__less   x0 x1 x2 x3 q := by
  unfold f__wide_big__less
  exact m__wide_big__less q    x0 x1 x2 x3 some
theorem s__wide_big__less : Sound Try.prog 49 (F__wide_big__less f__wide_big__less) :=
  (inl_sound (l := []) (.nil _) mixed [] [] 200 (by kernel_rfl)).by (F := F__wide_big__less f__wide_big__less) fun args b r hr => by
  obtain ⟨x0, x1, x2, x3, rfl, rfl, hr1⟩ := e__wide_big__less hr
  exact inl_eval ((d__wide_big__less   x0 x1 x2 x3).trans ((n__wide_big__less (fun (d : Bool) => some (Res.mk (AV.r (RV.c (CV.f (FV.b d)))) [] [])) x0 x1 x2 x3).symm.trans hr1))

def K__wide_big__minus {ρ : Type} (g_Sub64 : C3)  (x0 : Int) (x1 : Int) (x2 : Int) (x3 : Int) (k : (Int × Int) → Option ρ) : Option ρ :=
  Option.bind (g_Sub64 x1 x3 0) fun (d : Int × Int) => Option.bind (g_Sub64 x0 x2 d.snd) fun (d_1 : Int × Int) => k (d_1.fst, d.fst)
def f__wide_big__minus (x0 : Int) (x1 : Int) (x2 : Int) (x3 : Int) : Option (Int × Int) := K__wide_big__minus f_Sub64  x0 x1 x2 x3 some
section
open Go.Ab.Rdr
def QA__wide_big__minus := ((pair (cons (ar (ra (cons (gc (cf (fi .u64 hole))) (cons (gc (cf (fi .u64 hole))) nil)))) (cons (ar (ra (cons (gc (cf (fi .u64 hole))) (cons (gc (cf (fi .u64 hole))) nil)))) nil)) nil) : Rdr (List AV × List Blk) _)
end
def F__wide_big__minus (f : (Int) → (Int) → (Int) → (Int) → Option (Int × Int)) : Sem1 := fun args h => match (QA__wide_big__minus).rd (args, h) with
  | some b => .opt (f b.1.1.1 b.1.1.2.1 b.1.2.1.1 b.1.2.1.2.1) fun (d : Int × Int) => .leaf (Res.mk (AV.r (RV.agg [Sg.c (CV.f (FV.i IntKind.u64 d.fst)), Sg.c (CV.f (FV.i IntKind.u64 d.snd))])) [] [])
  | none => .fail
theorem d__wide_big__minus (g_Sub64 : C3)  (x0 : Int) (x1 : Int) (x2 : Int) (x3 : Int) : den Try.prog (envOf [(88, F_carry g_Sub64)]) ⟨[], [], [], [], none⟩ 200 50 [.r (.agg [.c (.f (.i .u64 x0)), .c (.f (.i .u64 x1))]), .r (.agg [.c (.f (.i .u64 x2)), .c (.f (.i .u64 x3))])] [] =
    K__wide_big__minus g_Sub64  x0 x1 x2 x3 (fun (d : Int × Int) => some (Res.mk (AV.r (RV.agg [Sg.c (CV.f (FV.i IntKind.u64 d.fst)), Sg.c (CV.f (FV.i IntKind.u64 d.snd))])) [] [])) := by kernel_rfl
theorem m__wide_big__minus {ρ σ : Type} (q : ρ → Option σ) (g_Sub64 : C3)   (x0 : Int) (x1 : Int) (x2 : Int) (x3 : Int) (k : (Int × Int) → Option ρ) : (K__wide_big__minus g_Sub64  x0 x1 x2 x3 k).bind q = K__wide_big__minus g_Sub64  x0 x1 x2 x3 (fun d => (k d).bind q) := by
  simp only [K__wide_big__minus, bnd_cond, bnd_bind, bnd_none, bnd_sum]
theorem qa__wide_big__minus : ∀ b, (QA__wide_big__minus).em b = ([.r (.agg [.c (.f (.i .u64 b.1.1.1)), .c (.f (.i .u64 b.1.1.2.1))]), .r (.agg [.c (.f (.i .u64 b.1.2.1.1)), .c (.f (.i .u64 b.1.2.1.2.1))])], []) := fun b => by kernel_rfl
theorem e__wide_big__minus {f : (Int) → (Int) → (Int) → (Int) → Option (Int × Int)} {args : List AV} {h : List Blk} {r : Res} (hr : (F__wide_big__minus f args h).eval = some r) : ∃ x0 x1 x2 x3, args = [.r (.agg [.c (.f (.i .u64 x0)), .c (.f (.i .u64 x1))]), .r (.agg [.c (.f (.i .u64 x2)), .c (.f (.i .u64 x3))])] ∧ h = [] ∧ (f x0 x1 x2 x3).bind (fun (d : Int × Int) => some (Res.mk (AV.r (RV.agg [Sg.c (CV.f (FV.i IntKind.u64 d.fst)), Sg.c (CV.f (FV.i IntKind.u64 d.snd))])) [] [])) = some r := by
  unfold F__wide_big__minus at hr
  split at hr
  · rename_i b hb
    have e := ((QA__wide_big__minus).ok _ _ hb).trans (qa__wide_big__minus b)
    rw [opt_eval2] at hr
    exact ⟨b.1.1.1, b.1.1.2.1, b.1.2.1.1, b.1.2.1.2.1, (Prod.mk.inj e).1, (Prod.mk.inj e).2, hr⟩
  · cases hr
theorem n__wide_big__minus {σ : Type} (q : (Int × Int) → Option σ) (x0 : Int) (x1 : Int) (x2 : Int) (x3 : Int) : (f__wide_big__minus x0 x1 x2 x3).bind q = K__wide_big__minus f_Sub64  x0 x1 x2 x3 q := by
  unfold f__wide_big__minus
  exact m__wide_big__minus q f_Sub64   x0 x1 x2 x3 some
theorem s__wide_big__minus : Sound Try.prog 50 (F__wide_big__minus f__wide_big__minus) :=
  (inl_sound (l := [(88, F_carry f_Sub64)]) (.cons s_Sub64 (.nil _)) mixed [] [] 200 (by kernel_rfl)).by (F := F__wide_big__minus f__wide_big__minus) fun args b r hr => by
  obtain ⟨x0, x1, x2, x3, rfl, rfl, hr1⟩ := e__wide_big__minus hr
  exact inl_eval ((d__wide_big__minus f_Sub64  x0 x1 x2 x3).trans ((n__wide_big__minus (fun (d : Int × Int) => some (Res.mk (AV.r (RV.agg [Sg.c (CV.f (FV.i IntKind.u64 d.fst)), Sg.c (CV.f (FV.i IntKind.u64 d.snd))])) [] [])) x0 x1 x2 x3).symm.trans hr1))

def S_wide_Root_0 {ρ : Type} (g__wide_big__shl : Int → Int → Int → Option (Int × Int)) (g__wide_big__plus : Int → Int → Int → Int → Option (Int × Int)) (g__wide_big__shr : Int → Int → Int → Option (Int × Int)) (g__wide_big__less : Int → Int → Int → Int → Option Bool) (g__wide_big__minus : Int → Int → Int → Int → Option (Int × Int)) (g_wide_signed64 : Int → Int → Bool → Option (Int × Bool))  (x0 : Int) (x1 : Int) (x2 : Int) (x3 : Int) (x4 : Int) (c : (Int × Int × Int × Int × Int) → Option ρ) (x : (Int × Bool × Int × Int × Int × Int) → Option ρ) : Option ρ :=
  bif decide (x0 ≥ 0) then
    Option.bind (g__wide_big__shl 0 1 x0) fun (d : Int × Int) =>
      Option.bind (g__wide_big__plus x3 x4 d.fst d.snd) fun (d_1 : Int × Int) =>
        Option.bind (g__wide_big__shr x3 x4 1) fun (d_2 : Int × Int) =>
          Option.bind (g__wide_big__less x1 x2 d_1.fst d_1.snd) fun (d_3 : Bool) =>
            bif !d_3 then
              Option.bind (g__wide_big__minus x1 x2 d_1.fst d_1.snd) fun (d_4 : Int × Int) =>
                Option.bind (g__wide_big__plus d_2.fst d_2.snd d.fst d.snd) fun (d : Int × Int) => c (IntKind.wrap IntKind.i64 (x0 - 2), d_4.fst, d_4.snd, d.fst, d.snd)
            else c (IntKind.wrap IntKind.i64 (x0 - 2), x1, x2, d_2.fst, d_2.snd)
  else x (x0, decide (x0 ≥ 0), x1, x2, x3, x4)
section
open Go.Ab.Rdr
def Q_wide_Root_0 := (st (cons aund (cons aund (cons aund (cons aund (cons (ar (rc (cptr (nat 0) (ok' (nat 0)) (nat 2)))) (cons (ar (rc (cptr (nat 1) (ok' (nat 0)) (nat 2)))) (cons (ar (rc (cf (fi .i64 hole)))) (cons aund (cons aund (cons aund (cons aund (cons aund (cons aund (cons aund (cons aund (cons aund (cons aund (cons aund (cons aund (cons aund (cons aund (cons aund (cons aund (cons aund (cons aund (cons aund (cons aund (cons aund (cons aund (cons aund (cons aund (cons aund (cons aund (cons aund (cons aund (cons aund (cons aund (cons aund (cons aund (cons aund (cons aund (cons aund (cons aund (cons aund (cons aund (cons aund (cons aund (cons aund (cons aund (cons aund (cons aund nil))))))))))))))))))))))))))))))))))))))))))))))))))) (cons (some' (cons (gc (cf (fi .u64 hole))) (cons (gc (cf (fi .u64 hole))) nil))) (cons (some' (cons (gc (cf (fi .u64 hole))) (cons (gc (cf (fi .u64 hole))) nil))) nil)) nil)
end
theorem q_wide_Root_0 : ∀ b, (Q_wide_Root_0).em b = St.mk
    [AV.und, AV.und, AV.und, AV.und, AV.r (RV.c (CV.ptr 0 (Off.k 0) 2)), AV.r (RV.c (CV.ptr 1 (Off.k 0) 2)), AV.r (RV.c (CV.f (FV.i IntKind.i64 b.1.2.2.2.2.2.2.1))), AV.und, AV.und, AV.und, AV.und, AV.und, AV.und,
      AV.und, AV.und, AV.und, AV.und, AV.und, AV.und, AV.und, AV.und, AV.und, AV.und, AV.und, AV.und, AV.und, AV.und, AV.und, AV.und, AV.und, AV.und, AV.und, AV.und, AV.und, AV.und, AV.und, AV.und,
      AV.und, AV.und, AV.und, AV.und, AV.und, AV.und, AV.und, AV.und, AV.und, AV.und, AV.und, AV.und, AV.und, AV.und]
    [some [Sg.c (CV.f (FV.i IntKind.u64 b.2.1.1.1)), Sg.c (CV.f (FV.i IntKind.u64 b.2.1.1.2.1))], some [Sg.c (CV.f (FV.i IntKind.u64 b.2.1.2.1.1)), Sg.c (CV.f (FV.i IntKind.u64 b.2.1.2.1.2.1))]] [] := fun b => by kernel_rfl
def R_wide_Root_0 (l : ∀ {ρ : Type}, (Int × Int × Int × Int × Int) → ((Int × Bool × Int × Int × Int × Int) → Option ρ) → Option ρ) {ρ : Type} (s : St) (K : AX → St → Option ρ) : Option ρ := ((Q_wide_Root_0).rd s).bind fun b => l (b.1.2.2.2.2.2.2.1, b.2.1.1.1, b.2.1.1.2.1, b.2.1.2.1.1, b.2.1.2.1.2.1) (fun d => K (AX.ex 0) (St.mk
  [AV.und, AV.und, AV.und, AV.und, AV.r (RV.c (CV.ptr 0 (Off.k 0) 2)), AV.r (RV.c (CV.ptr 1 (Off.k 0) 2)), AV.r (RV.c (CV.f (FV.i IntKind.i64 d.fst))), AV.und, AV.und, AV.und, AV.und, AV.und, AV.und,
    AV.und, AV.und, AV.und, AV.und, AV.und, AV.und, AV.r (RV.c (CV.f (FV.i IntKind.i64 d.fst))), AV.r (RV.c (CV.f (FV.b d.snd.fst))), AV.und, AV.und, AV.und, AV.und, AV.und, AV.und, AV.und, AV.und,
    AV.und, AV.und, AV.und, AV.und, AV.und, AV.und, AV.und, AV.und, AV.und, AV.und, AV.und, AV.und, AV.und, AV.und, AV.und, AV.und, AV.und, AV.und, AV.und, AV.und, AV.und, AV.und]
  [some [Sg.c (CV.f (FV.i IntKind.u64 d.snd.snd.fst)), Sg.c (CV.f (FV.i IntKind.u64 d.snd.snd.snd.fst))],
    some [Sg.c (CV.f (FV.i IntKind.u64 d.snd.snd.snd.snd.fst)), Sg.c (CV.f (FV.i IntKind.u64 d.snd.snd.snd.snd.snd))]]
  []))
theorem ms_wide_Root_0 {ρ σ : Type} (g__wide_big__shl : Int → Int → Int → Option (Int × Int)) (g__wide_big__plus : Int → Int → Int → Int → Option (Int × Int)) (g__wide_big__shr : Int → Int → Int → Option (Int × Int)) (g__wide_big__less : Int → Int → Int → Int → Option Bool) (g__wide_big__minus : Int → Int → Int → Int → Option (Int × Int)) (g_wide_signed64 : Int → Int → Bool → Option (Int × Bool))   (q : ρ → Option σ) (x0 : Int) (x1 : Int) (x2 : Int) (x3 : Int) (x4 : Int) (c : (Int × Int × Int × Int × Int) → Option ρ) (x : (Int × Bool × Int × Int × Int × Int) → Option ρ) : (S_wide_Root_0 g__wide_big__shl g__wide_big__plus g__wide_big__shr g__wide_big__less g__wide_big__minus g_wide_signed64  x0 x1 x2 x3 x4 c x).bind q = S_wide_Root_0 g__wide_big__shl g__wide_big__plus g__wide_big__shr g__wide_big__less g__wide_big__minus g_wide_signed64  x0 x1 x2 x3 x4 (fun d => (c d).bind q) (fun d => (x d).bind q) := by
  simp only [S_wide_Root_0, bnd_cond, bnd_bind, bnd_none, bnd_sum]
def L_wide_Root_0 {ρ : Type} (d : Int × Int × Int × Int × Int) (k : (Int × Bool × Int × Int × Int × Int) → Option ρ) : Option ρ := loopK (fun d c x => S_wide_Root_0 f__wide_big__shl f__wide_big__plus f__wide_big__shr f__wide_big__less f__wide_big__minus f_wide_signed64  d.1 d.2.1 d.2.2.1 d.2.2.2.1 d.2.2.2.2 c x) 200 d k
theorem mL_wide_Root_0 {ρ σ : Type} (q : ρ → Option σ) (d : Int × Int × Int × Int × Int) (k : (Int × Bool × Int × Int × Int × Int) → Option ρ) : (L_wide_Root_0 d k).bind q = L_wide_Root_0 d fun x => (k x).bind q :=
  loopK_bind q (fun d c x => ms_wide_Root_0 f__wide_big__shl f__wide_big__plus f__wide_big__shr f__wide_big__less f__wide_big__minus f_wide_signed64   q d.1 d.2.1 d.2.2.1 d.2.2.2.1 d.2.2.2.2 c x) k _ d
theorem ds_wide_Root_0 {ρ : Type} (g__wide_big__shl : Int → Int → Int → Option (Int × Int)) (g__wide_big__plus : Int → Int → Int → Int → Option (Int × Int)) (g__wide_big__shr : Int → Int → Int → Option (Int × Int)) (g__wide_big__less : Int → Int → Int → Int → Option Bool) (g__wide_big__minus : Int → Int → Int → Int → Option (Int × Int)) (g_wide_signed64 : Int → Int → Bool → Option (Int × Bool)) (l_0 : ∀ {ρ : Type}, (Int × Int × Int × Int × Int) → ((Int × Bool × Int × Int × Int × Int) → Option ρ) → Option ρ) (x0 : Int) (x1 : Int) (x2 : Int) (x3 : Int) (x4 : Int) (c : St → Option ρ) (K : AX → St → Option ρ) :
    runC Try.prog (envOf [(46, F__wide_big__shl g__wide_big__shl), (47, F__wide_big__plus g__wide_big__plus), (48, F__wide_big__shr g__wide_big__shr), (49, F__wide_big__less g__wide_big__less), (50, F__wide_big__minus g__wide_big__minus), (51, F_wide_signed64 g_wide_signed64)]) ⟨[⟨5, [0, 1, 2, 3, 7, 8, 9, 10, 11, 12, 13, 14, 15, 16, 17, 18, 19, 20, 21, 22, 23, 24, 25, 26, 27, 28, 29, 30, 31, 32, 33, 34, 35, 36, 37, 38, 39, 40, 41, 42, 43, 44, 45, 46, 47, 48, 49, 50], []⟩], [⟨5, 0, @R_wide_Root_0 (@l_0)⟩], [], [], none⟩ (tmpsOf Try.prog 15) 0 200 (loopIn Try.prog 15 5)
      (St.mk
    [AV.und, AV.und, AV.und, AV.und, AV.r (RV.c (CV.ptr 0 (Off.k 0) 2)), AV.r (RV.c (CV.ptr 1 (Off.k 0) 2)), AV.r (RV.c (CV.f (FV.i IntKind.i64 x0))), AV.und, AV.und, AV.und, AV.und, AV.und, AV.und,
      AV.und, AV.und, AV.und, AV.und, AV.und, AV.und, AV.und, AV.und, AV.und, AV.und, AV.und, AV.und, AV.und, AV.und, AV.und, AV.und, AV.und, AV.und, AV.und, AV.und, AV.und, AV.und, AV.und, AV.und,
      AV.und, AV.und, AV.und, AV.und, AV.und, AV.und, AV.und, AV.und, AV.und, AV.und, AV.und, AV.und, AV.und, AV.und]
    [some [Sg.c (CV.f (FV.i IntKind.u64 x1)), Sg.c (CV.f (FV.i IntKind.u64 x2))], some [Sg.c (CV.f (FV.i IntKind.u64 x3)), Sg.c (CV.f (FV.i IntKind.u64 x4))]] [])
      (next (fun t => t.head 0 ⟨[⟨5, [0, 1, 2, 3, 7, 8, 9, 10, 11, 12, 13, 14, 15, 16, 17, 18, 19, 20, 21, 22, 23, 24, 25, 26, 27, 28, 29, 30, 31, 32, 33, 34, 35, 36, 37, 38, 39, 40, 41, 42, 43, 44, 45, 46, 47, 48, 49, 50], []⟩], [⟨5, 0, @R_wide_Root_0 (@l_0)⟩], [], [], none⟩ (loopIn Try.prog 15 5)) c K) =
    S_wide_Root_0 g__wide_big__shl g__wide_big__plus g__wide_big__shr g__wide_big__less g__wide_big__minus g_wide_signed64  x0 x1 x2 x3 x4 (fun d => c (St.mk
  [AV.und, AV.und, AV.und, AV.und, AV.r (RV.c (CV.ptr 0 (Off.k 0) 2)), AV.r (RV.c (CV.ptr 1 (Off.k 0) 2)), AV.r (RV.c (CV.f (FV.i IntKind.i64 d.fst))), AV.und, AV.und, AV.und, AV.und, AV.und, AV.und,
    AV.und, AV.und, AV.und, AV.und, AV.und, AV.und, AV.und, AV.und, AV.und, AV.und, AV.und, AV.und, AV.und, AV.und, AV.und, AV.und, AV.und, AV.und, AV.und, AV.und, AV.und, AV.und, AV.und, AV.und,
    AV.und, AV.und, AV.und, AV.und, AV.und, AV.und, AV.und, AV.und, AV.und, AV.und, AV.und, AV.und, AV.und, AV.und]
  [some [Sg.c (CV.f (FV.i IntKind.u64 d.snd.fst)), Sg.c (CV.f (FV.i IntKind.u64 d.snd.snd.fst))],
    some [Sg.c (CV.f (FV.i IntKind.u64 d.snd.snd.snd.fst)), Sg.c (CV.f (FV.i IntKind.u64 d.snd.snd.snd.snd))]]
  [])) (fun d => K (AX.ex 0) (St.mk
  [AV.und, AV.und, AV.und, AV.und, AV.r (RV.c (CV.ptr 0 (Off.k 0) 2)), AV.r (RV.c (CV.ptr 1 (Off.k 0) 2)), AV.r (RV.c (CV.f (FV.i IntKind.i64 d.fst))), AV.und, AV.und, AV.und, AV.und, AV.und, AV.und,
    AV.und, AV.und, AV.und, AV.und, AV.und, AV.und, AV.r (RV.c (CV.f (FV.i IntKind.i64 d.fst))), AV.r (RV.c (CV.f (FV.b d.snd.fst))), AV.und, AV.und, AV.und, AV.und, AV.und, AV.und, AV.und, AV.und,
    AV.und, AV.und, AV.und, AV.und, AV.und, AV.und, AV.und, AV.und, AV.und, AV.und, AV.und, AV.und, AV.und, AV.und, AV.und, AV.und, AV.und, AV.und, AV.und, AV.und, AV.und, AV.und]
  [some [Sg.c (CV.f (FV.i IntKind.u64 d.snd.snd.fst)), Sg.c (CV.f (FV.i IntKind.u64 d.snd.snd.snd.fst))],
    some [Sg.c (CV.f (FV.i IntKind.u64 d.snd.snd.snd.snd.fst)), Sg.c (CV.f (FV.i IntKind.u64 d.snd.snd.snd.snd.snd))]]
  [])) := by kernel_rfl
theorem it_wide_Root_0 {ρ : Type} (x0 : Int) (x1 : Int) (x2 : Int) (x3 : Int) (x4 : Int) (K : AX → St → Option ρ) :
    iter (fun t => t.head 0 ⟨[⟨5, [0, 1, 2, 3, 7, 8, 9, 10, 11, 12, 13, 14, 15, 16, 17, 18, 19, 20, 21, 22, 23, 24, 25, 26, 27, 28, 29, 30, 31, 32, 33, 34, 35, 36, 37, 38, 39, 40, 41, 42, 43, 44, 45, 46, 47, 48, 49, 50], []⟩], [⟨5, 0, @R_wide_Root_0 (@L_wide_Root_0)⟩], [], [], none⟩ (loopIn Try.prog 15 5)) (runC Try.prog (envOf [(46, F__wide_big__shl f__wide_big__shl), (47, F__wide_big__plus f__wide_big__plus), (48, F__wide_big__shr f__wide_big__shr), (49, F__wide_big__less f__wide_big__less), (50, F__wide_big__minus f__wide_big__minus), (51, F_wide_signed64 f_wide_signed64)]) ⟨[⟨5, [0, 1, 2, 3, 7, 8, 9, 10, 11, 12, 13, 14, 15, 16, 17, 18, 19, 20, 21, 22, 23, 24, 25, 26, 27, 28, 29, 30, 31, 32, 33, 34, 35, 36, 37, 38, 39, 40, 41, 42, 43, 44, 45, 46, 47, 48, 49, 50], []⟩], [⟨5, 0, @R_wide_Root_0 (@L_wide_Root_0)⟩], [], [], none⟩ (tmpsOf Try.prog 15) 0 200 (loopIn Try.prog 15 5)) K 200
      (St.mk
    [AV.und, AV.und, AV.und, AV.und, AV.r (RV.c (CV.ptr 0 (Off.k 0) 2)), AV.r (RV.c (CV.ptr 1 (Off.k 0) 2)), AV.r (RV.c (CV.f (FV.i IntKind.i64 x0))), AV.und, AV.und, AV.und, AV.und, AV.und, AV.und,
      AV.und, AV.und, AV.und, AV.und, AV.und, AV.und, AV.und, AV.und, AV.und, AV.und, AV.und, AV.und, AV.und, AV.und, AV.und, AV.und, AV.und, AV.und, AV.und, AV.und, AV.und, AV.und, AV.und, AV.und,
      AV.und, AV.und, AV.und, AV.und, AV.und, AV.und, AV.und, AV.und, AV.und, AV.und, AV.und, AV.und, AV.und, AV.und]
    [some [Sg.c (CV.f (FV.i IntKind.u64 x1)), Sg.c (CV.f (FV.i IntKind.u64 x2))], some [Sg.c (CV.f (FV.i IntKind.u64 x3)), Sg.c (CV.f (FV.i IntKind.u64 x4))]] []) = L_wide_Root_0 (x0, x1, x2, x3, x4) (fun d => K (AX.ex 0) (St.mk
  [AV.und, AV.und, AV.und, AV.und, AV.r (RV.c (CV.ptr 0 (Off.k 0) 2)), AV.r (RV.c (CV.ptr 1 (Off.k 0) 2)), AV.r (RV.c (CV.f (FV.i IntKind.i64 d.fst))), AV.und, AV.und, AV.und, AV.und, AV.und, AV.und,
    AV.und, AV.und, AV.und, AV.und, AV.und, AV.und, AV.r (RV.c (CV.f (FV.i IntKind.i64 d.fst))), AV.r (RV.c (CV.f (FV.b d.snd.fst))), AV.und, AV.und, AV.und, AV.und, AV.und, AV.und, AV.und, AV.und,
    AV.und, AV.und, AV.und, AV.und, AV.und, AV.und, AV.und, AV.und, AV.und, AV.und, AV.und, AV.und, AV.und, AV.und, AV.und, AV.und, AV.und, AV.und, AV.und, AV.und, AV.und, AV.und]
  [some [Sg.c (CV.f (FV.i IntKind.u64 d.snd.snd.fst)), Sg.c (CV.f (FV.i IntKind.u64 d.snd.snd.snd.fst))],
    some [Sg.c (CV.f (FV.i IntKind.u64 d.snd.snd.snd.snd.fst)), Sg.c (CV.f (FV.i IntKind.u64 d.snd.snd.snd.snd.snd))]]
  [])) :=
  iter_loopX (emb := fun (d : Int × Int × Int × Int × Int) => St.mk
  [AV.und, AV.und, AV.und, AV.und, AV.r (RV.c (CV.ptr 0 (Off.k 0) 2)), AV.r (RV.c (CV.ptr 1 (Off.k 0) 2)), AV.r (RV.c (CV.f (FV.i IntKind.i64 d.fst))), AV.und, AV.und, AV.und, AV.und, AV.und, AV.und,
    AV.und, AV.und, AV.und, AV.und, AV.und, AV.und, AV.und, AV.und, AV.und, AV.und, AV.und, AV.und, AV.und, AV.und, AV.und, AV.und, AV.und, AV.und, AV.und, AV.und, AV.und, AV.und, AV.und, AV.und,
    AV.und, AV.und, AV.und, AV.und, AV.und, AV.und, AV.und, AV.und, AV.und, AV.und, AV.und, AV.und, AV.und, AV.und]
  [some [Sg.c (CV.f (FV.i IntKind.u64 d.snd.fst)), Sg.c (CV.f (FV.i IntKind.u64 d.snd.snd.fst))],
    some [Sg.c (CV.f (FV.i IntKind.u64 d.snd.snd.snd.fst)), Sg.c (CV.f (FV.i IntKind.u64 d.snd.snd.snd.snd))]]
  []) (step := fun d c x => S_wide_Root_0 f__wide_big__shl f__wide_big__plus f__wide_big__shr f__wide_big__less f__wide_big__minus f_wide_signed64  d.1 d.2.1 d.2.2.1 d.2.2.2.1 d.2.2.2.2 c x) (kx := (fun d => K (AX.ex 0) (St.mk
  [AV.und, AV.und, AV.und, AV.und, AV.r (RV.c (CV.ptr 0 (Off.k 0) 2)), AV.r (RV.c (CV.ptr 1 (Off.k 0) 2)), AV.r (RV.c (CV.f (FV.i IntKind.i64 d.fst))), AV.und, AV.und, AV.und, AV.und, AV.und, AV.und,
    AV.und, AV.und, AV.und, AV.und, AV.und, AV.und, AV.r (RV.c (CV.f (FV.i IntKind.i64 d.fst))), AV.r (RV.c (CV.f (FV.b d.snd.fst))), AV.und, AV.und, AV.und, AV.und, AV.und, AV.und, AV.und, AV.und,
    AV.und, AV.und, AV.und, AV.und, AV.und, AV.und, AV.und, AV.und, AV.und, AV.und, AV.und, AV.und, AV.und, AV.und, AV.und, AV.und, AV.und, AV.und, AV.und, AV.und, AV.und, AV.und]
  [some [Sg.c (CV.f (FV.i IntKind.u64 d.snd.snd.fst)), Sg.c (CV.f (FV.i IntKind.u64 d.snd.snd.snd.fst))],
    some [Sg.c (CV.f (FV.i IntKind.u64 d.snd.snd.snd.snd.fst)), Sg.c (CV.f (FV.i IntKind.u64 d.snd.snd.snd.snd.snd))]]
  [])))
    (fun d c => ds_wide_Root_0 f__wide_big__shl f__wide_big__plus f__wide_big__shr f__wide_big__less f__wide_big__minus f_wide_signed64 (@L_wide_Root_0) d.1 d.2.1 d.2.2.1 d.2.2.2.1 d.2.2.2.2 c K) 200 (x0, x1, x2, x3, x4)
theorem so_wide_Root_0 : ∀ kk, SumOK Try.prog (envOf [(46, F__wide_big__shl f__wide_big__shl), (47, F__wide_big__plus f__wide_big__plus), (48, F__wide_big__shr f__wide_big__shr), (49, F__wide_big__less f__wide_big__less), (50, F__wide_big__minus f__wide_big__minus), (51, F_wide_signed64 f_wide_signed64)]) ⟨[⟨5, [0, 1, 2, 3, 7, 8, 9, 10, 11, 12, 13, 14, 15, 16, 17, 18, 19, 20, 21, 22, 23, 24, 25, 26, 27, 28, 29, 30, 31, 32, 33, 34, 35, 36, 37, 38, 39, 40, 41, 42, 43, 44, 45, 46, 47, 48, 49, 50], []⟩], [⟨5, 0, @R_wide_Root_0 (@L_wide_Root_0)⟩], [], [], none⟩ (tmpsOf Try.prog 15) kk 200 (loopIn Try.prog 15 5) :=
  SumOK.of (id := 5) (k0 := 0) (run := @R_wide_Root_0 (@L_wide_Root_0)) (by kernel_rfl) fun s K r hr => by
    unfold R_wide_Root_0 at hr
    obtain ⟨b, hb, hr1⟩ := Option.bind_eq_some_iff.1 hr
    have e := ((Q_wide_Root_0).ok s b hb).trans (q_wide_Root_0 b)
    subst e
    exact ⟨200, (it_wide_Root_0 b.1.2.2.2.2.2.2.1 b.2.1.1.1 b.2.1.1.2.1 b.2.1.2.1.1 b.2.1.2.1.2.1 K).trans hr1⟩
def K_wide_Root {ρ : Type} (g__wide_big__shl : Int → Int → Int → Option (Int × Int)) (g__wide_big__plus : Int → Int → Int → Int → Option (Int × Int)) (g__wide_big__shr : Int → Int → Int → Option (Int × Int)) (g__wide_big__less : Int → Int → Int → Int → Option Bool) (g__wide_big__minus : Int → Int → Int → Int → Option (Int × Int)) (g_wide_signed64 : Int → Int → Bool → Option (Int × Bool)) (l_0 : ∀ {ρ : Type}, (Int × Int × Int × Int × Int) → ((Int × Bool × Int × Int × Int × Int) → Option ρ) → Option ρ) (x0 : Int) (x1 : Int) (k : (Int × Bool) → Option ρ) : Option ρ :=
  bif decide (x0 < 0) then k (0, false)
  else
    l_0 (126, IntKind.wrap IntKind.u64 x0, x1, 0, 0) fun (d : Int × Bool × Int × Int × Int × Int) =>
      Option.bind (g__wide_big__less d.snd.snd.snd.snd.fst d.snd.snd.snd.snd.snd d.snd.snd.fst d.snd.snd.snd.fst) fun (d_1 : Bool) =>
        bif d_1 then
          Option.bind (g__wide_big__plus d.snd.snd.snd.snd.fst d.snd.snd.snd.snd.snd 0 1) fun (d : Int × Int) => Option.bind (g_wide_signed64 d.fst d.snd false) fun (d : Int × Bool) => k (d.fst, d.snd)
        else Option.bind (g_wide_signed64 d.snd.snd.snd.snd.fst d.snd.snd.snd.snd.snd false) fun (d : Int × Bool) => k (d.fst, d.snd)
def f_wide_Root (x0 : Int) (x1 : Int) : Option (Int × Bool) := K_wide_Root f__wide_big__shl f__wide_big__plus f__wide_big__shr f__wide_big__less f__wide_big__minus f_wide_signed64 (@L_wide_Root_0) x0 x1 some
section
open Go.Ab.Rdr
def QA_wide_Root := ((pair (cons (ar (ra (cons (gc (cf (fi .i64 hole))) (cons (gc (cf (fi .u64 hole))) nil)))) nil) nil) : Rdr (List AV × List Blk) _)
end
def F_wide_Root (f : (Int) → (Int) → Option (Int × Bool)) : Sem1 := fun args h => match (QA_wide_Root).rd (args, h) with
  | some b => .opt (f b.1.1.1 b.1.1.2.1) fun (d : Int × Bool) => .leaf (Res.mk (AV.tup [RV.c (CV.f (FV.i IntKind.i64 d.fst)), RV.c (CV.f (FV.b d.snd))]) [] [])
  | none => .fail
theorem d_wide_Root (g__wide_big__shl : Int → Int → Int → Option (Int × Int)) (g__wide_big__plus : Int → Int → Int → Int → Option (Int × Int)) (g__wide_big__shr : Int → Int → Int → Option (Int × Int)) (g__wide_big__less : Int → Int → Int → Int → Option Bool) (g__wide_big__minus : Int → Int → Int → Int → Option (Int × Int)) (g_wide_signed64 : Int → Int → Bool → Option (Int × Bool)) (l_0 : ∀ {ρ : Type}, (Int × Int × Int × Int × Int) → ((Int × Bool × Int × Int × Int × Int) → Option ρ) → Option ρ) (x0 : Int) (x1 : Int) : den Try.prog (envOf [(46, F__wide_big__shl g__wide_big__shl), (47, F__wide_big__plus g__wide_big__plus), (48, F__wide_big__shr g__wide_big__shr), (49, F__wide_big__less g__wide_big__less), (50, F__wide_big__minus g__wide_big__minus), (51, F_wide_signed64 g_wide_signed64)]) ⟨[⟨5, [0, 1, 2, 3, 7, 8, 9, 10, 11, 12, 13, 14, 15, 16, 17, 18, 19, 20, 21, 22, 23, 24, 25, 26, 27, 28, 29, 30, 31, 32, 33, 34, 35, 36, 37, 38, 39, 40, 41, 42, 43, 44, 45, 46, 47, 48, 49, 50], []⟩], [⟨5, 0, @R_wide_Root_0 (@l_0)⟩], [], [], none⟩ 200 15 [.r (.agg [.c (.f (.i .i64 x0)), .c (.f (.i .u64 x1))])] [] =
    K_wide_Root g__wide_big__shl g__wide_big__plus g__wide_big__shr g__wide_big__less g__wide_big__minus g_wide_signed64 (@l_0) x0 x1 (fun (d : Int × Bool) => some (Res.mk (AV.tup [RV.c (CV.f (FV.i IntKind.i64 d.fst)), RV.c (CV.f (FV.b d.snd))]) [] [])) := by kernel_rfl
theorem m_wide_Root {ρ σ : Type} (q : ρ → Option σ) (g__wide_big__shl : Int → Int → Int → Option (Int × Int)) (g__wide_big__plus : Int → Int → Int → Int → Option (Int × Int)) (g__wide_big__shr : Int → Int → Int → Option (Int × Int)) (g__wide_big__less : Int → Int → Int → Int → Option Bool) (g__wide_big__minus : Int → Int → Int → Int → Option (Int × Int)) (g_wide_signed64 : Int → Int → Bool → Option (Int × Bool)) (l_0 : ∀ {ρ : Type}, (Int × Int × Int × Int × Int) → ((Int × Bool × Int × Int × Int × Int) → Option ρ) → Option ρ) (hl_0 : ∀ {ρ σ : Type} (q : ρ → Option σ) (d : Int × Int × Int × Int × Int) (k : (Int × Bool × Int × Int × Int × Int) → Option ρ), (l_0 d k).bind q = l_0 d fun x => (k x).bind q) (x0 : Int) (x1 : Int) (k : (Int × Bool) → Option ρ) : (K_wide_Root g__wide_big__shl g__wide_big__plus g__wide_big__shr g__wide_big__less g__wide_big__minus g_wide_signed64 (@l_0) x0 x1 k).bind q = K_wide_Root g__wide_big__shl g__wide_big__plus g__wide_big__shr g__wide_big__less g__wide_big__minus g_wide_signed64 (@l_0) x0 x1 (fun d => (k d).bind q) := by
  simp only [K_wide_Root, bnd_cond, bnd_bind, bnd_none, bnd_sum, hl_0]
theorem qa_wide_Root : ∀ b, (QA_wide_Root).em b = ([.r (.agg [.c (.f (.i .i64 b.1.1.1)), .c (.f (.i .u64 b.1.1.2.1))])], []) := fun b => by kernel_rfl
theorem e_wide_Root {f : (Int) → (Int) → Option (Int × Bool)} {args : List AV} {h : List Blk} {r : Res} (hr : (F_wide_Root f args h).eval = some r) : ∃ x0 x1, args = [.r (.agg [.c (.f (.i .i64 x0)), .c (.f (.i .u64 x1))])] ∧ h = [] ∧ (f x0 x1).bind (fun (d : Int × Bool) => some (Res.mk (AV.tup [RV.c (CV.f (FV.i IntKind.i64 d.fst)), RV.c (CV.f (FV.b d.snd))]) [] [])) = some r := by
  unfold F_wide_Root at hr
  split at hr
  · rename_i b hb
    have e := ((QA_wide_Root).ok _ _ hb).trans (qa_wide_Root b)
    rw [opt_eval2] at hr
    exact ⟨b.1.1.1, b.1.1.2.1, (Prod.mk.inj e).1, (Prod.mk.inj e).2, hr⟩
  · cases hr
theorem n_wide_Root {σ : Type} (q : (Int × Bool) → Option σ) (x0 : Int) (x1 : Int) : (f_wide_Root x0 x1).bind q = K_wide_Root f__wide_big__shl f__wide_big__plus f__wide_big__shr f__wide_big__less f__wide_big__minus f_wide_signed64 (@L_wide_Root_0) x0 x1 q := by
  unfold f_wide_Root
  exact m_wide_Root q f__wide_big__shl f__wide_big__plus f__wide_big__shr f__wide_big__less f__wide_big__minus f_wide_signed64 (@L_wide_Root_0) (fun q d k => mL_wide_Root_0 q d k) x0 x1 some
theorem s_wide_Root : Sound Try.prog 15 (F_wide_Root f_wide_Root) :=
  (inl_sums (l := [(46, F__wide_big__shl f__wide_big__shl), (47, F__wide_big__plus f__wide_big__plus), (48, F__wide_big__shr f__wide_big__shr), (49, F__wide_big__less f__wide_big__less), (50, F__wide_big__minus f__wide_big__minus), (51, F_wide_signed64 f_wide_signed64)]) (.cons s__wide_big__shl (.cons s__wide_big__plus (.cons s__wide_big__shr (.cons s__wide_big__less (.cons s__wide_big__minus (.cons s_wide_signed64 (.nil _))))))) mixed (hs := ⟨[⟨5, [0, 1, 2, 3, 7, 8, 9, 10, 11, 12, 13, 14, 15, 16, 17, 18, 19, 20, 21, 22, 23, 24, 25, 26, 27, 28, 29, 30, 31, 32, 33, 34, 35, 36, 37, 38, 39, 40, 41, 42, 43, 44, 45, 46, 47, 48, 49, 50], []⟩], [⟨5, 0, @R_wide_Root_0 (@L_wide_Root_0)⟩], [], [], none⟩) (lf := 200) (Sums.by (l := [loopIn Try.prog 15 5]) (lj := []) (by kernel_rfl) ⟨so_wide_Root_0, trivial⟩ (by kernel_rfl) trivial) (by kernel_rfl)).by (F := F_wide_Root f_wide_Root) fun args b r hr => by
  obtain ⟨x0, x1, rfl, rfl, hr1⟩ := e_wide_Root hr
  exact inl_eval ((d_wide_Root f__wide_big__shl f__wide_big__plus f__wide_big__shr f__wide_big__less f__wide_big__minus f_wide_signed64 (@L_wide_Root_0) x0 x1).trans ((n_wide_Root (fun (d : Int × Bool) => some (Res.mk (AV.tup [RV.c (CV.f (FV.i IntKind.i64 d.fst)), RV.c (CV.f (FV.b d.snd))]) [] [])) x0 x1).symm.trans hr1))

def K_wide_Neg {ρ : Type} (g_wide_abs : Int → Int → Option (Int × Int × Bool)) (g_wide_signed : Int → Int → Bool → Option (Int × Int × Bool))  (x0 : Int) (x1 : Int) (k : (Int × Int × Bool) → Option ρ) : Option ρ :=
  Option.bind (g_wide_abs x0 x1) fun (d : Int × Int × Bool) =>
    Option.bind (g_wide_signed d.fst d.snd.fst !d.snd.snd) fun (d : Int × Int × Bool) => bif !d.snd.snd then k (0, 0, false) else k (d.fst, d.snd.fst, true)
def f_wide_Neg (x0 : Int) (x1 : Int) : Option (Int × Int × Bool) := K_wide_Neg f_wide_abs f_wide_signed  x0 x1 some
section
open Go.Ab.Rdr
def QA_wide_Neg := ((pair (cons (ar (ra (cons (gc (cf (fi .i64 hole))) (cons (gc (cf (fi .u64 hole))) nil)))) nil) nil) : Rdr (List AV × List Blk) _)
end
def F_wide_Neg (f : (Int) → (Int) → Option (Int × Int × Bool)) : Sem1 := fun args h => match (QA_wide_Neg).rd (args, h) with
  | some b => .opt (f b.1.1.1 b.1.1.2.1) fun (d : Int × Int × Bool) => .leaf (Res.mk (AV.tup [RV.agg [Sg.c (CV.f (FV.i IntKind.i64 d.fst)), Sg.c (CV.f (FV.i IntKind.u64 d.snd.fst))], RV.c (CV.f (FV.b d.snd.snd))]) [] [])
  | none => .fail
theorem d_wide_Neg (g_wide_abs : Int → Int → Option (Int × Int × Bool)) (g_wide_signed : Int → Int → Bool → Option (Int × Int × Bool))  (x0 : Int) (x1 : Int) : den Try.prog (envOf [(52, F_wide_abs g_wide_abs), (55, F_wide_signed g_wide_signed)]) ⟨[], [], [], [], none⟩ 200 19 [.r (.agg [.c (.f (.i .i64 x0)), .c (.f (.i .u64 x1))])] [] =
    K_wide_Neg g_wide_abs g_wide_signed  x0 x1 (fun (d : Int × Int × Bool) => some (Res.mk (AV.tup [RV.agg [Sg.c (CV.f (FV.i IntKind.i64 d.fst)), Sg.c (CV.f (FV.i IntKind.u64 d.snd.fst))], RV.c (CV.f (FV.b d.snd.snd))]) [] [])) := by kernel_rfl
theorem m_wide_Neg {ρ σ : Type} (q : ρ → Option σ) (g_wide_abs : Int → Int → Option (Int × Int × Bool)) (g_wide_signed : Int → Int → Bool → Option (Int × Int × Bool))   (x0 : Int) (x1 : Int) (k : (Int × Int × Bool) → Option ρ) : (K_wide_Neg g_wide_abs g_wide_signed  x0 x1 k).bind q = K_wide_Neg g_wide_abs g_wide_signed  x0 x1 (fun d => (k d).bind q) := by
  simp only [K_wide_Neg, bnd_cond, bnd_bind, bnd_none, bnd_sum]
theorem qa_wide_Neg : ∀ b, (QA_wide_Neg).em b = ([.r (.agg [.c (.f (.i .i64 b.1.1.1)), .c (.f (.i .u64 b.1.1.2.1))])], []) := fun b => by kernel_rfl
theorem e_wide_Neg {f : (Int) → (Int) → Option (Int × Int × Bool)} {args : List AV} {h : List Blk} {r : Res} (hr : (F_wide_Neg f args h).eval = some r) : ∃ x0 x1, args = [.r (.agg [.c (.f (.i .i64 x0)), .c (.f (.i .u64 x1))])] ∧ h = [] ∧ (f x0 x1).bind (fun (d : Int × Int × Bool) => some (Res.mk (AV.tup [RV.agg [Sg.c (CV.f (FV.i IntKind.i64 d.fst)), Sg.c (CV.f (FV.i IntKind.u64 d.snd.fst))], RV.c (CV.f (FV.b d.snd.snd))]) [] [])) = some r := by
  unfold F_wide_Neg at hr
  split at hr
  · rename_i b hb
    have e := ((QA_wide_Neg).ok _ _ hb).trans (qa_wide_Neg b)
    rw [opt_eval2] at hr
    exact ⟨b.1.1.1, b.1.1.2.1, (Prod.mk.inj e).1, (Prod.mk.inj e).2, hr⟩
  · cases hr
theorem n_wide_Neg {σ : Type} (q : (Int × Int × Bool) → Option σ) (x0 : Int) (x1 : Int) : (f_wide_Neg x0 x1).bind q = K_wide_Neg f_wide_abs f_wide_signed  x0 x1 q := by
  unfold f_wide_Neg
  exact m_wide_Neg q f_wide_abs f_wide_signed   x0 x1 some
theorem s_wide_Neg : Sound Try.prog 19 (F_wide_Neg f_wide_Neg) :=
  (inl_sound (l := [(52, F_wide_abs f_wide_abs), (55, F_wide_signed f_wide_signed)]) (.cons s_wide_abs (.cons s_wide_signed (.nil _))) mixed [] [] 200 (by kernel_rfl)).by (F := F_wide_Neg f_wide_Neg) fun args b r hr => by
  obtain ⟨x0, x1, rfl, rfl, hr1⟩ := e_wide_Neg hr
  exact inl_eval ((d_wide_Neg f_wide_abs f_wide_signed  x0 x1).trans ((n_wide_Neg (fun (d : Int × Int × Bool) => some (Res.mk (AV.tup [RV.agg [Sg.c (CV.f (FV.i IntKind.i64 d.fst)), Sg.c (CV.f (FV.i IntKind.u64 d.snd.fst))], RV.c (CV.f (FV.b d.snd.snd))]) [] [])) x0 x1).symm.trans hr1))

def K_wide_Shift {ρ : Type} (g_wide_abs64 : Int → Option Int) (g__wide_big__shl : Int → Int → Int → Option (Int × Int)) (g__wide_big__shr : Int → Int → Int → Option (Int × Int)) (g_wide_signed : Int → Int → Bool → Option (Int × Int × Bool))  (x0 : Int) (x1 : Int) (k : (Int × Int × Bool) → Option ρ) : Option ρ :=
  bif decide (x1 < 0) then k (0, 0, false)
  else
    bif decide (x1 > 127) then k (0, 0, false)
    else
      Option.bind (g_wide_abs64 x0) fun (d : Int) =>
        Option.bind (g__wide_big__shl 0 d x1) fun (d_1 : Int × Int) =>
          Option.bind (g__wide_big__shr d_1.fst d_1.snd x1) fun (d_2 : Int × Int) =>
            bif !(d_2.fst == 0 && (d_2.snd == d && true)) then k (0, 0, false)
            else Option.bind (g_wide_signed d_1.fst d_1.snd (decide (x0 < 0))) fun (d : Int × Int × Bool) => bif !d.snd.snd then k (0, 0, false) else k (d.fst, d.snd.fst, true)
def f_wide_Shift (x0 : Int) (x1 : Int) : Option (Int × Int × Bool) := K_wide_Shift f_wide_abs64 f__wide_big__shl f__wide_big__shr f_wide_signed  x0 x1 some
section
open Go.Ab.Rdr
def QA_wide_Shift := ((pair (cons (ar (rc (cf (fi .i64 hole)))) (cons (ar (rc (cf (fi .i64 hole)))) nil)) nil) : Rdr (List AV × List Blk) _)
end
def F_wide_Shift (f : (Int) → (Int) → Option (Int × Int × Bool)) : Sem1 := fun args h => match (QA_wide_Shift).rd (args, h) with
  | some b => .opt (f b.1.1 b.1.2.1) fun (d : Int × Int × Bool) => .leaf (Res.mk (AV.tup [RV.agg [Sg.c (CV.f (FV.i IntKind.i64 d.fst)), Sg.c (CV.f (FV.i IntKind.u64 d.snd.fst))], RV.c (CV.f (FV.b d.snd.snd))]) [] [])
  | none => .fail
theorem d_wide_Shift (g_wide_abs64 : Int → Option Int) (g__wide_big__shl : Int → Int → Int → Option (Int × Int)) (g__wide_big__shr : Int → Int → Int → Option (Int × Int)) (g_wide_signed : Int → Int → Bool → Option (Int × Int × Bool))  (x0 : Int) (x1 : Int) : den Try.prog (envOf [(53, F_wide_abs64 g_wide_abs64), (46, F__wide_big__shl g__wide_big__shl), (48, F__wide_big__shr g__wide_big__shr), (55, F_wide_signed g_wide_signed)]) ⟨[], [], [], [], none⟩ 200 31 [.r (.c (.f (.i .i64 x0))), .r (.c (.f (.i .i64 x1)))] [] =
    K_wide_Shift g_wide_abs64 g__wide_big__shl g__wide_big__shr g_wide_signed  x0 x1 (fun (d : Int × Int × Bool) => some (Res.mk (AV.tup [RV.agg [Sg.c (CV.f (FV.i IntKind.i64 d.fst)), Sg.c (CV.f (FV.i IntKind.u64 d.snd.fst))], RV.c (CV.f (FV.b d.snd.snd))]) [] [])) := by kernel_rfl
theorem m_wide_Shift {ρ σ : Type} (q : ρ → Option σ) (g_wide_abs64 : Int → Option Int) (g__wide_big__shl : Int → Int → Int → Option (Int × Int)) (g__wide_big__shr : Int → Int → Int → Option (Int × Int)) (g_wide_signed : Int → Int → Bool → Option (Int × Int × Bool))   (x0 : Int) (x1 : Int) (k : (Int × Int × Bool) → Option ρ) : (K_wide_Shift g_wide_abs64 g__wide_big__shl g__wide_big__shr g_wide_signed  x0 x1 k).bind q = K_wide_Shift g_wide_abs64 g__wide_big__shl g__wide_big__shr g_wide_signed  x0 x1 (fun d => (k d).bind q) := by
  simp only [K_wide_Shift, bnd_cond, bnd_bind, bnd_none, bnd_sum]
theorem qa_wide_Shift : ∀ b, (QA_wide_Shift).em b = ([.r (.c (.f (.i .i64 b.1.1))), .r (.c (.f (.i .i64 b.1.2.1)))], []) := fun b => by kernel_rfl
theorem e_wide_Shift {f : (Int) → (Int) → Option (Int × Int × Bool)} {args : List AV} {h : List Blk} {r : Res} (hr : (F_wide_Shift f args h).eval = some r) : ∃ x0 x1, args = [.r (.c (.f (.i .i64 x0))), .r (.c (.f (.i .i64 x1)))] ∧ h = [] ∧ (f x0 x1).bind (fun (d : Int × Int × Bool) => some (Res.mk (AV.tup [RV.agg [Sg.c (CV.f (FV.i IntKind.i64 d.fst)), Sg.c (CV.f (FV.i IntKind.u64 d.snd.fst))], RV.c (CV.f (FV.b d.snd.snd))]) [] [])) = some r := by
  unfold F_wide_Shift at hr
  split at hr
  · rename_i b hb
    have e := ((QA_wide_Shift).ok _ _ hb).trans (qa_wide_Shift b)
    rw [opt_eval2] at hr
    exact ⟨b.1.1, b.1.2.1, (Prod.mk.inj e).1, (Prod.mk.inj e).2, hr⟩
  · cases hr
theorem n_wide_Shift {σ : Type} (q : (Int × Int × Bool) → Option σ) (x0 : Int) (x1 : Int) : (f_wide_Shift x0 x1).bind q = K_wide_Shift f_wide_abs64 f__wide_big__shl f__wide_big__shr f_wide_signed  x0 x1 q := by
  unfold f_wide_Shift
  exact m_wide_Shift q f_wide_abs64 f__wide_big__shl f__wide_big__shr f_wide_signed   x0 x1 some
theorem s_wide_Shift : Sound Try.prog 31 (F_wide_Shift f_wide_Shift) :=
  (inl_sound (l := [(53, F_wide_abs64 f_wide_abs64), (46, F__wide_big__shl f__wide_big__shl), (48, F__wide_big__shr f__wide_big__shr), (55, F_wide_signed f_wide_signed)]) (.cons s_wide_abs64 (.cons s__wide_big__shl (.cons s__wide_big__shr (.cons s_wide_signed (.nil _))))) mixed [] [] 200 (by kernel_rfl)).by (F := F_wide_Shift f_wide_Shift) fun args b r hr => by
  obtain ⟨x0, x1, rfl, rfl, hr1⟩ := e_wide_Shift hr
  exact inl_eval ((d_wide_Shift f_wide_abs64 f__wide_big__shl f__wide_big__shr f_wide_signed  x0 x1).trans ((n_wide_Shift (fun (d : Int × Int × Bool) => some (Res.mk (AV.tup [RV.agg [Sg.c (CV.f (FV.i IntKind.i64 d.fst)), Sg.c (CV.f (FV.i IntKind.u64 d.snd.fst))], RV.c (CV.f (FV.b d.snd.snd))]) [] [])) x0 x1).symm.trans hr1))

def K_wide_Cmp {ρ : Type}   (x0 : Int) (x1 : Int) (x2 : Int) (x3 : Int) (k : (Int) → Option ρ) : Option ρ :=
  bif x0 == x2 && (x1 == x3 && true) then k 0 else bif decide (x0 < x2) then k (-1) else bif x0 == x2 then bif decide (x1 < x3) then k (-1) else k 1 else k 1
def f_wide_Cmp (x0 : Int) (x1 : Int) (x2 : Int) (x3 : Int) : Option (Int) := K_wide_Cmp   x0 x1 x2 x3 some
section
open Go.Ab.Rdr
def QA_wide_Cmp := ((pair (cons (ar (ra (cons (gc (cf (fi .i64 hole))) (cons (gc (cf (fi .u64 hole))) nil)))) (cons (ar (ra (cons (gc (cf (fi .i64 hole))) (cons (gc (cf (fi .u64 hole))) nil)))) nil)) nil) : Rdr (List AV × List Blk) _)
end
def F_wide_Cmp (f : (Int) → (Int) → (Int) → (Int) → Option (Int)) : Sem1 := fun args h => match (QA_wide_Cmp).rd (args, h) with
  | some b => .opt (f b.1.1.1 b.1.1.2.1 b.1.2.1.1 b.1.2.1.2.1) fun (d : Int) => .leaf (Res.mk (AV.r (RV.c (CV.f (FV.i IntKind.i64 d)))) [] [])
  | none => .fail
theorem d_wide_Cmp   (x0 : Int) (x1 : Int) (x2 : Int) (x3 : Int) : den Try.prog (envOf []) ⟨[], [], [], [], none⟩ 200 29 [.r (.agg [.c (.f (.i .i64 x0)), .c (.f (.i .u64 x1))]), .r (.agg [.c (.f (.i .i64 x2)), .c (.f (.i .u64 x3))])] [] =
    K_wide_Cmp   x0 x1 x2 x3 (fun (d : Int) => some (Res.mk (AV.r (RV.c (CV.f (FV.i IntKind.i64 d)))) [] [])) := by kernel_rfl
theorem m_wide_Cmp {ρ σ : Type} (q : ρ → Option σ)    (x0 : Int) (x1 : Int) (x2 : Int) (x3 : Int) (k : (Int) → Option ρ) : (K_wide_Cmp   x0 x1 x2 x3 k).bind q = K_wide_Cmp   x0 x1 x2 x3 (fun d => (k d).bind q) := by
  simp only [K_wide_Cmp, bnd_cond, bnd_bind, bnd_none, bnd_sum]
theorem qa_wide_Cmp : ∀ b, (QA_wide_Cmp).em b = ([.r (.agg [.c (.f (.i .i64 b.1.1.1)), .c (.f (.i .u64 b.1.1.2.1))]), .r (.agg [.c (.f (.i .i64 b.1.2.1.1)), .c (.f (.i .u64 b.1.2.1.2.1))])], []) := fun b => by kernel_rfl
theorem e_wide_Cmp {f : (Int) → (Int) → (Int) → (Int) → Option (Int)} {args : List AV} {h : List Blk} {r : Res} (hr : (F_wide_Cmp f args h).eval = some r) : ∃ x0 x1 x2 x3, args = [.r (.agg [.c (.f (.i .i64 x0)), .c (.f (.i .u64 x1))]), .r (.agg [.c (.f (.i .i64 x2)), .c (.f (.i .u64 x3))])] ∧ h = [] ∧ (f x0 x1 x2 x3).bind (fun (d : Int) => some (Res.mk (AV.r (RV.c (CV.f (FV.i IntKind.i64 d)))) [] [])) = some r := by
  unfold F_wide_Cmp at hr
  split at hr
  · rename_i b hb
    have e := ((QA_wide_Cmp).ok _ _ hb).trans (qa_wide_Cmp b)
    rw [opt_eval2] at hr
    exact ⟨b.1.1.1, b.1.1.2.1, b.1.2.1.1, b.1.2.1.2.1, (Prod.mk.inj e).1, (Prod.mk.inj e).2, hr⟩
  · cases hr
theorem n_wide_Cmp {σ : Type} (q : (Int) → Option σ) (x0 : Int) (x1 : Int) (x2 : Int) (x3 : Int) : (f_wide_Cmp x0 x1 x2 x3).bind q = K_wide_Cmp   x0 x1 x2 x3 q := by
  unfold f_wide_Cmp
  exact m_wide_Cmp q    x0 x1 x2 x3 some
theorem s_wide_Cmp : Sound Try.prog 29 (F_wide_Cmp f_wide_Cmp) :=
  (inl_sound (l := []) (.nil _) mixed [] [] 200 (by kernel_rfl)).by (F := F_wide_Cmp f_wide_Cmp) fun args b r hr => by
  obtain ⟨x0, x1, x2, x3, rfl, rfl, hr1⟩ := e_wide_Cmp hr
  exact inl_eval ((d_wide_Cmp   x0 x1 x2 x3).trans ((n_wide_Cmp (fun (d : Int) => some (Res.mk (AV.r (RV.c (CV.f (FV.i IntKind.i64 d)))) [] [])) x0 x1 x2 x3).symm.trans hr1))

end Go.Proofs.Ytcalippagaaikaa
end
