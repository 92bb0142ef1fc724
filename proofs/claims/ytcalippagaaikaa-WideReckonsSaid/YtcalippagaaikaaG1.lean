/-
  Contracts by plain functions: astrolaberef1.size, astrolaberef1.zero, astrolaberef1.made, astrolaberef1.Of, astrolaberef1.plus, astrolaberef1.less, astrolaberef1.minus, astrolaberef1.Add, astrolaberef1.Wide, astrolaberef1.Neg, astrolaberef1.Cmp, astrolaberef1.Pow, astrolaberef1.Fits, astrolaberef1.Small, astrolaberef1.Mul, astrolabelaw1.big, astrolabelaw1.same
-/
import Derived.Test.YtcalippagaaikaaWYC
set_option maxRecDepth 100000
set_option maxHeartbeats 4000000
set_option linter.unusedVariables false
namespace Go.Proofs.Ytcalippagaaikaa
open Go.Ab
def K_astrolaberef1_size {ρ : Type}   (x0 : Int) (k : (Int) → Option ρ) : Option ρ :=
  bif decide (x0 < 0) then k (IntKind.wrap IntKind.u64 (IntKind.wrap IntKind.u64 (IntKind.wrap IntKind.i64 (0 - IntKind.wrap IntKind.i64 (x0 + 1))) + 1)) else k (IntKind.wrap IntKind.u64 x0)
def f_astrolaberef1_size (x0 : Int) : Option (Int) := K_astrolaberef1_size   x0 some
section
open Go.Ab.Rdr
def QA_astrolaberef1_size := ((pair (cons (ar (rc (cf (fi .i64 hole)))) nil) nil) : Rdr (List AV × List Blk) _)
end
def F_astrolaberef1_size (f : (Int) → Option (Int)) : Sem1 := fun args h => match (QA_astrolaberef1_size).rd (args, h) with
  | some b => .opt (f b.1.1) fun (d : Int) => .leaf (Res.mk (AV.r (RV.c (CV.f (FV.i IntKind.u64 d)))) [] [])
  | none => .fail
theorem d_astrolaberef1_size   (x0 : Int) : den Try.prog (envOf []) ⟨[], [], [], [], none⟩ 300 57 [.r (.c (.f (.i .i64 x0)))] [] =
    K_astrolaberef1_size   x0 (fun (d : Int) => some (Res.mk (AV.r (RV.c (CV.f (FV.i IntKind.u64 d)))) [] [])) := by kernel_rfl
theorem m_astrolaberef1_size {ρ σ : Type} (q : ρ → Option σ)    (x0 : Int) (k : (Int) → Option ρ) : (K_astrolaberef1_size   x0 k).bind q = K_astrolaberef1_size   x0 (fun d => (k d).bind q) := by
  simp only [K_astrolaberef1_size, bnd_cond, bnd_bind, bnd_none, bnd_sum]
theorem qa_astrolaberef1_size : ∀ b, (QA_astrolaberef1_size).em b = ([.r (.c (.f (.i .i64 b.1.1)))], []) := fun b => by kernel_rfl
theorem e_astrolaberef1_size {f : (Int) → Option (Int)} {args : List AV} {h : List Blk} {r : Res} (hr : (F_astrolaberef1_size f args h).eval = some r) : ∃ x0, args = [.r (.c (.f (.i .i64 x0)))] ∧ h = [] ∧ (f x0).bind (fun (d : Int) => some (Res.mk (AV.r (RV.c (CV.f (FV.i IntKind.u64 d)))) [] [])) = some r := by
  unfold F_astrolaberef1_size at hr
  split at hr
  · rename_i b hb
    have e := ((QA_astrolaberef1_size).ok _ _ hb).trans (qa_astrolaberef1_size b)
    rw [opt_eval2] at hr
    exact ⟨b.1.1, (Prod.mk.inj e).1, (Prod.mk.inj e).2, hr⟩
  · cases hr
theorem n_astrolaberef1_size {σ : Type} (q : (Int) → Option σ) (x0 : Int) : (f_astrolaberef1_size x0).bind q = K_astrolaberef1_size   x0 q := by
  unfold f_astrolaberef1_size
  exact m_astrolaberef1_size q    x0 some
theorem s_astrolaberef1_size : Sound Try.prog 57 (F_astrolaberef1_size f_astrolaberef1_size) :=
  (inl_sound (l := []) (.nil _) mixed [] [] 300 (by kernel_rfl)).by (F := F_astrolaberef1_size f_astrolaberef1_size) fun args b r hr => by
  obtain ⟨x0, rfl, rfl, hr1⟩ := e_astrolaberef1_size hr
  exact inl_eval ((d_astrolaberef1_size   x0).trans ((n_astrolaberef1_size (fun (d : Int) => some (Res.mk (AV.r (RV.c (CV.f (FV.i IntKind.u64 d)))) [] [])) x0).symm.trans hr1))

def S_astrolaberef1_zero_0 {ρ : Type}   (x0 : Int) (x1 : Nat → Int) (c : (Int × (Nat → Int)) → Option ρ) (x : (Unit ⊕ Int × Bool × (Nat → Int)) → Option ρ) : Option ρ :=
  bif decide (x0 < 8) then bif inR x0 8 then bif x1 (Int.toNat x0) != 0 then x (Sum.inl ()) else c (IntKind.wrap IntKind.i64 (x0 + 1), x1) else none else x (Sum.inr (x0, decide (x0 < 8), x1))
section
open Go.Ab.Rdr
def Q_astrolaberef1_zero_0 := (st (cons aund (cons (ar (rc (cptr (nat 0) (ok' (nat 0)) (nat 8)))) (cons aund (cons (ar (rc (cf (fi .i64 hole)))) (cons aund (cons aund (cons aund (cons aund (cons aund (cons aund (cons aund (cons aund nil)))))))))))) (cons (some' (cons (ga (szl (nat 8)) (cons (ki .u64 hole) nil)) nil)) nil) nil)
end
theorem q_astrolaberef1_zero_0 : ∀ b, (Q_astrolaberef1_zero_0).em b = St.mk [AV.und, AV.r (RV.c (CV.ptr 0 (Off.k 0) 8)), AV.und, AV.r (RV.c (CV.f (FV.i IntKind.i64 b.1.2.2.2.1))), AV.und, AV.und, AV.und, AV.und, AV.und, AV.und, AV.und, AV.und]
    [some [Sg.a (Sz.l 8) [Col.i IntKind.u64 b.2.1.1.1.2.1]]] [] := fun b => by kernel_rfl
def R_astrolaberef1_zero_0 (l : ∀ {ρ : Type}, (Int × (Nat → Int)) → ((Unit ⊕ Int × Bool × (Nat → Int)) → Option ρ) → Option ρ) {ρ : Type} (s : St) (K : AX → St → Option ρ) : Option ρ := ((Q_astrolaberef1_zero_0).rd s).bind fun b => l (b.1.2.2.2.1, b.2.1.1.1.2.1) (Sum.elim (fun d => K (AX.ret) (St.mk [AV.und, AV.und, AV.r (RV.c (CV.f (FV.b false))), AV.und, AV.und, AV.und, AV.und, AV.und, AV.und, AV.und, AV.und, AV.und] [] [])) (fun d => K (AX.ex 0) (St.mk
  [AV.und, AV.r (RV.c (CV.ptr 0 (Off.k 0) 8)), AV.und, AV.r (RV.c (CV.f (FV.i IntKind.i64 d.1))), AV.r (RV.c (CV.f (FV.i IntKind.i64 d.1))), AV.r (RV.c (CV.f (FV.b d.2.1))), AV.und, AV.und,
    AV.und, AV.und, AV.und, AV.und]
  [some [Sg.a (Sz.l 8) [Col.i IntKind.u64 d.2.2]]] [])))
theorem ms_astrolaberef1_zero_0 {ρ σ : Type}    (q : ρ → Option σ) (x0 : Int) (x1 : Nat → Int) (c : (Int × (Nat → Int)) → Option ρ) (x : (Unit ⊕ Int × Bool × (Nat → Int)) → Option ρ) : (S_astrolaberef1_zero_0   x0 x1 c x).bind q = S_astrolaberef1_zero_0   x0 x1 (fun d => (c d).bind q) (fun d => (x d).bind q) := by
  simp only [S_astrolaberef1_zero_0, bnd_cond, bnd_bind, bnd_none, bnd_sum]
def L_astrolaberef1_zero_0 {ρ : Type} (d : Int × (Nat → Int)) (k : (Unit ⊕ Int × Bool × (Nat → Int)) → Option ρ) : Option ρ := loopK (fun d c x => S_astrolaberef1_zero_0   d.1 d.2 c x) 300 d k
theorem mL_astrolaberef1_zero_0 {ρ σ : Type} (q : ρ → Option σ) (d : Int × (Nat → Int)) (k : (Unit ⊕ Int × Bool × (Nat → Int)) → Option ρ) : (L_astrolaberef1_zero_0 d k).bind q = L_astrolaberef1_zero_0 d fun x => (k x).bind q :=
  loopK_bind q (fun d c x => ms_astrolaberef1_zero_0    q d.1 d.2 c x) k _ d
theorem ds_astrolaberef1_zero_0 {ρ : Type}  (l_0 : ∀ {ρ : Type}, (Int × (Nat → Int)) → ((Unit ⊕ Int × Bool × (Nat → Int)) → Option ρ) → Option ρ) (x0 : Int) (x1 : Nat → Int) (c : St → Option ρ) (K : AX → St → Option ρ) :
    runC Try.prog (envOf []) ⟨[⟨2, [0, 2, 4, 5, 6, 7, 8, 9, 10, 11], []⟩], [⟨2, 0, @R_astrolaberef1_zero_0 (@l_0)⟩], [], [], (some ⟨0, [0, 1, 3, 4, 5, 6, 7, 8, 9, 10, 11], []⟩)⟩ (tmpsOf Try.prog 64) 0 300 (loopIn Try.prog 64 2)
      (St.mk [AV.und, AV.r (RV.c (CV.ptr 0 (Off.k 0) 8)), AV.und, AV.r (RV.c (CV.f (FV.i IntKind.i64 x0))), AV.und, AV.und, AV.und, AV.und, AV.und, AV.und, AV.und, AV.und]
    [some [Sg.a (Sz.l 8) [Col.i IntKind.u64 x1]]] [])
      (next (fun t => t.head 0 ⟨[⟨2, [0, 2, 4, 5, 6, 7, 8, 9, 10, 11], []⟩], [⟨2, 0, @R_astrolaberef1_zero_0 (@l_0)⟩], [], [], (some ⟨0, [0, 1, 3, 4, 5, 6, 7, 8, 9, 10, 11], []⟩)⟩ (loopIn Try.prog 64 2)) c K) =
    S_astrolaberef1_zero_0   x0 x1 (fun d => c (St.mk [AV.und, AV.r (RV.c (CV.ptr 0 (Off.k 0) 8)), AV.und, AV.r (RV.c (CV.f (FV.i IntKind.i64 d.1))), AV.und, AV.und, AV.und, AV.und, AV.und, AV.und, AV.und, AV.und]
  [some [Sg.a (Sz.l 8) [Col.i IntKind.u64 d.2]]] [])) (Sum.elim (fun d => K (AX.ret) (St.mk [AV.und, AV.und, AV.r (RV.c (CV.f (FV.b false))), AV.und, AV.und, AV.und, AV.und, AV.und, AV.und, AV.und, AV.und, AV.und] [] [])) (fun d => K (AX.ex 0) (St.mk
  [AV.und, AV.r (RV.c (CV.ptr 0 (Off.k 0) 8)), AV.und, AV.r (RV.c (CV.f (FV.i IntKind.i64 d.1))), AV.r (RV.c (CV.f (FV.i IntKind.i64 d.1))), AV.r (RV.c (CV.f (FV.b d.2.1))), AV.und, AV.und,
    AV.und, AV.und, AV.und, AV.und]
  [some [Sg.a (Sz.l 8) [Col.i IntKind.u64 d.2.2]]] []))) := by kernel_rfl
theorem it_astrolaberef1_zero_0 {ρ : Type} (x0 : Int) (x1 : Nat → Int) (K : AX → St → Option ρ) :
    iter (fun t => t.head 0 ⟨[⟨2, [0, 2, 4, 5, 6, 7, 8, 9, 10, 11], []⟩], [⟨2, 0, @R_astrolaberef1_zero_0 (@L_astrolaberef1_zero_0)⟩], [], [], (some ⟨0, [0, 1, 3, 4, 5, 6, 7, 8, 9, 10, 11], []⟩)⟩ (loopIn Try.prog 64 2)) (runC Try.prog (envOf []) ⟨[⟨2, [0, 2, 4, 5, 6, 7, 8, 9, 10, 11], []⟩], [⟨2, 0, @R_astrolaberef1_zero_0 (@L_astrolaberef1_zero_0)⟩], [], [], (some ⟨0, [0, 1, 3, 4, 5, 6, 7, 8, 9, 10, 11], []⟩)⟩ (tmpsOf Try.prog 64) 0 300 (loopIn Try.prog 64 2)) K 300
      (St.mk [AV.und, AV.r (RV.c (CV.ptr 0 (Off.k 0) 8)), AV.und, AV.r (RV.c (CV.f (FV.i IntKind.i64 x0))), AV.und, AV.und, AV.und, AV.und, AV.und, AV.und, AV.und, AV.und]
    [some [Sg.a (Sz.l 8) [Col.i IntKind.u64 x1]]] []) = L_astrolaberef1_zero_0 (x0, x1) (Sum.elim (fun d => K (AX.ret) (St.mk [AV.und, AV.und, AV.r (RV.c (CV.f (FV.b false))), AV.und, AV.und, AV.und, AV.und, AV.und, AV.und, AV.und, AV.und, AV.und] [] [])) (fun d => K (AX.ex 0) (St.mk
  [AV.und, AV.r (RV.c (CV.ptr 0 (Off.k 0) 8)), AV.und, AV.r (RV.c (CV.f (FV.i IntKind.i64 d.1))), AV.r (RV.c (CV.f (FV.i IntKind.i64 d.1))), AV.r (RV.c (CV.f (FV.b d.2.1))), AV.und, AV.und,
    AV.und, AV.und, AV.und, AV.und]
  [some [Sg.a (Sz.l 8) [Col.i IntKind.u64 d.2.2]]] []))) :=
  iter_loopX (emb := fun (d : Int × (Nat → Int)) => St.mk [AV.und, AV.r (RV.c (CV.ptr 0 (Off.k 0) 8)), AV.und, AV.r (RV.c (CV.f (FV.i IntKind.i64 d.1))), AV.und, AV.und, AV.und, AV.und, AV.und, AV.und, AV.und, AV.und]
  [some [Sg.a (Sz.l 8) [Col.i IntKind.u64 d.2]]] []) (step := fun d c x => S_astrolaberef1_zero_0   d.1 d.2 c x) (kx := (Sum.elim (fun d => K (AX.ret) (St.mk [AV.und, AV.und, AV.r (RV.c (CV.f (FV.b false))), AV.und, AV.und, AV.und, AV.und, AV.und, AV.und, AV.und, AV.und, AV.und] [] [])) (fun d => K (AX.ex 0) (St.mk
  [AV.und, AV.r (RV.c (CV.ptr 0 (Off.k 0) 8)), AV.und, AV.r (RV.c (CV.f (FV.i IntKind.i64 d.1))), AV.r (RV.c (CV.f (FV.i IntKind.i64 d.1))), AV.r (RV.c (CV.f (FV.b d.2.1))), AV.und, AV.und,
    AV.und, AV.und, AV.und, AV.und]
  [some [Sg.a (Sz.l 8) [Col.i IntKind.u64 d.2.2]]] []))))
    (fun d c => ds_astrolaberef1_zero_0  (@L_astrolaberef1_zero_0) d.1 d.2 c K) 300 (x0, x1)
theorem so_astrolaberef1_zero_0 : ∀ kk, SumOK Try.prog (envOf []) ⟨[⟨2, [0, 2, 4, 5, 6, 7, 8, 9, 10, 11], []⟩], [⟨2, 0, @R_astrolaberef1_zero_0 (@L_astrolaberef1_zero_0)⟩], [], [], (some ⟨0, [0, 1, 3, 4, 5, 6, 7, 8, 9, 10, 11], []⟩)⟩ (tmpsOf Try.prog 64) kk 300 (loopIn Try.prog 64 2) :=
  SumOK.of (id := 2) (k0 := 0) (run := @R_astrolaberef1_zero_0 (@L_astrolaberef1_zero_0)) (by kernel_rfl) fun s K r hr => by
    unfold R_astrolaberef1_zero_0 at hr
    obtain ⟨b, hb, hr1⟩ := Option.bind_eq_some_iff.1 hr
    have e := ((Q_astrolaberef1_zero_0).ok s b hb).trans (q_astrolaberef1_zero_0 b)
    subst e
    exact ⟨300, (it_astrolaberef1_zero_0 b.1.2.2.2.1 b.2.1.1.1.2.1 K).trans hr1⟩
def K_astrolaberef1_zero {ρ : Type}  (l_0 : ∀ {ρ : Type}, (Int × (Nat → Int)) → ((Unit ⊕ Int × Bool × (Nat → Int)) → Option ρ) → Option ρ) (x0 : Nat → Int) (k : (Bool) → Option ρ) : Option ρ :=
  l_0 (0, x0) (Sum.elim (fun (d : Unit) => k false) fun (d : Int × Bool × (Nat → Int)) => k true)
def f_astrolaberef1_zero (x0 : Nat → Int) : Option (Bool) := K_astrolaberef1_zero  (@L_astrolaberef1_zero_0) x0 some
section
open Go.Ab.Rdr
def QA_astrolaberef1_zero := ((pair (cons (ar (ra (cons (ga (szl (nat 8)) (cons (ki .u64 hole) nil)) nil))) nil) nil) : Rdr (List AV × List Blk) _)
end
def F_astrolaberef1_zero (f : (Nat → Int) → Option (Bool)) : Sem1 := fun args h => match (QA_astrolaberef1_zero).rd (args, h) with
  | some b => .opt (f b.1.1.1.2.1) fun (d : Bool) => .leaf (Res.mk (AV.r (RV.c (CV.f (FV.b d)))) [] [])
  | none => .fail
theorem d_astrolaberef1_zero  (l_0 : ∀ {ρ : Type}, (Int × (Nat → Int)) → ((Unit ⊕ Int × Bool × (Nat → Int)) → Option ρ) → Option ρ) (x0 : Nat → Int) : den Try.prog (envOf []) ⟨[⟨2, [0, 2, 4, 5, 6, 7, 8, 9, 10, 11], []⟩], [⟨2, 0, @R_astrolaberef1_zero_0 (@l_0)⟩], [], [], (some ⟨0, [0, 1, 3, 4, 5, 6, 7, 8, 9, 10, 11], []⟩)⟩ 300 64 [.r (.agg [.a (.l 8) [.i .u64 x0]])] [] =
    K_astrolaberef1_zero  (@l_0) x0 (fun (d : Bool) => some (Res.mk (AV.r (RV.c (CV.f (FV.b d)))) [] [])) := by kernel_rfl
theorem m_astrolaberef1_zero {ρ σ : Type} (q : ρ → Option σ)  (l_0 : ∀ {ρ : Type}, (Int × (Nat → Int)) → ((Unit ⊕ Int × Bool × (Nat → Int)) → Option ρ) → Option ρ) (hl_0 : ∀ {ρ σ : Type} (q : ρ → Option σ) (d : Int × (Nat → Int)) (k : (Unit ⊕ Int × Bool × (Nat → Int)) → Option ρ), (l_0 d k).bind q = l_0 d fun x => (k x).bind q) (x0 : Nat → Int) (k : (Bool) → Option ρ) : (K_astrolaberef1_zero  (@l_0) x0 k).bind q = K_astrolaberef1_zero  (@l_0) x0 (fun d => (k d).bind q) := by
  simp only [K_astrolaberef1_zero, bnd_cond, bnd_bind, bnd_none, bnd_sum, hl_0]
theorem qa_astrolaberef1_zero : ∀ b, (QA_astrolaberef1_zero).em b = ([.r (.agg [.a (.l 8) [.i .u64 b.1.1.1.2.1]])], []) := fun b => by kernel_rfl
theorem e_astrolaberef1_zero {f : (Nat → Int) → Option (Bool)} {args : List AV} {h : List Blk} {r : Res} (hr : (F_astrolaberef1_zero f args h).eval = some r) : ∃ x0, args = [.r (.agg [.a (.l 8) [.i .u64 x0]])] ∧ h = [] ∧ (f x0).bind (fun (d : Bool) => some (Res.mk (AV.r (RV.c (CV.f (FV.b d)))) [] [])) = some r := by
  unfold F_astrolaberef1_zero at hr
  split at hr
  · rename_i b hb
    have e := ((QA_astrolaberef1_zero).ok _ _ hb).trans (qa_astrolaberef1_zero b)
    rw [opt_eval2] at hr
    exact ⟨b.1.1.1.2.1, (Prod.mk.inj e).1, (Prod.mk.inj e).2, hr⟩
  · cases hr
theorem n_astrolaberef1_zero {σ : Type} (q : (Bool) → Option σ) (x0 : Nat → Int) : (f_astrolaberef1_zero x0).bind q = K_astrolaberef1_zero  (@L_astrolaberef1_zero_0) x0 q := by
  unfold f_astrolaberef1_zero
  exact m_astrolaberef1_zero q  (@L_astrolaberef1_zero_0) (fun q d k => mL_astrolaberef1_zero_0 q d k) x0 some
theorem s_astrolaberef1_zero : Sound Try.prog 64 (F_astrolaberef1_zero f_astrolaberef1_zero) :=
  (inl_sums (l := []) (.nil _) mixed (hs := ⟨[⟨2, [0, 2, 4, 5, 6, 7, 8, 9, 10, 11], []⟩], [⟨2, 0, @R_astrolaberef1_zero_0 (@L_astrolaberef1_zero_0)⟩], [], [], (some ⟨0, [0, 1, 3, 4, 5, 6, 7, 8, 9, 10, 11], []⟩)⟩) (lf := 300) (Sums.by (l := [loopIn Try.prog 64 2]) (lj := []) (by kernel_rfl) ⟨so_astrolaberef1_zero_0, trivial⟩ (by kernel_rfl) trivial) (by kernel_rfl)).by (F := F_astrolaberef1_zero f_astrolaberef1_zero) fun args b r hr => by
  obtain ⟨x0, rfl, rfl, hr1⟩ := e_astrolaberef1_zero hr
  exact inl_eval ((d_astrolaberef1_zero  (@L_astrolaberef1_zero_0) x0).trans ((n_astrolaberef1_zero (fun (d : Bool) => some (Res.mk (AV.r (RV.c (CV.f (FV.b d)))) [] [])) x0).symm.trans hr1))

def K_astrolaberef1_made {ρ : Type} (g_astrolaberef1_zero : (Nat → Int) → Option Bool)  (x0 : Bool) (x1 : Nat → Int) (k : (Bool × (Nat → Int)) → Option ρ) : Option ρ :=
  bif x0 then Option.bind (g_astrolaberef1_zero x1) fun (d : Bool) => k (!d, x1) else k (false, x1)
def f_astrolaberef1_made (x0 : Bool) (x1 : Nat → Int) : Option (Bool × (Nat → Int)) := K_astrolaberef1_made f_astrolaberef1_zero  x0 x1 some
section
open Go.Ab.Rdr
def QA_astrolaberef1_made := ((pair (cons (ar (rc (cf (fb hole)))) (cons (ar (ra (cons (ga (szl (nat 8)) (cons (ki .u64 hole) nil)) nil))) nil)) nil) : Rdr (List AV × List Blk) _)
end
def F_astrolaberef1_made (f : (Bool) → (Nat → Int) → Option (Bool × (Nat → Int))) : Sem1 := fun args h => match (QA_astrolaberef1_made).rd (args, h) with
  | some b => .opt (f b.1.1 b.1.2.1.1.2.1) fun (d : Bool × (Nat → Int)) => .leaf (Res.mk (AV.r (RV.agg [Sg.c (CV.f (FV.b d.1)), Sg.a (Sz.l 8) [Col.i IntKind.u64 d.2]])) [] [])
  | none => .fail
theorem d_astrolaberef1_made (g_astrolaberef1_zero : (Nat → Int) → Option Bool)  (x0 : Bool) (x1 : Nat → Int) : den Try.prog (envOf [(64, F_astrolaberef1_zero g_astrolaberef1_zero)]) ⟨[], [], [], [], none⟩ 300 58 [.r (.c (.f (.b x0))), .r (.agg [.a (.l 8) [.i .u64 x1]])] [] =
    K_astrolaberef1_made g_astrolaberef1_zero  x0 x1 (fun (d : Bool × (Nat → Int)) => some (Res.mk (AV.r (RV.agg [Sg.c (CV.f (FV.b d.1)), Sg.a (Sz.l 8) [Col.i IntKind.u64 d.2]])) [] [])) := by kernel_rfl
theorem m_astrolaberef1_made {ρ σ : Type} (q : ρ → Option σ) (g_astrolaberef1_zero : (Nat → Int) → Option Bool)   (x0 : Bool) (x1 : Nat → Int) (k : (Bool × (Nat → Int)) → Option ρ) : (K_astrolaberef1_made g_astrolaberef1_zero  x0 x1 k).bind q = K_astrolaberef1_made g_astrolaberef1_zero  x0 x1 (fun d => (k d).bind q) := by
  simp only [K_astrolaberef1_made, bnd_cond, bnd_bind, bnd_none, bnd_sum]
theorem qa_astrolaberef1_made : ∀ b, (QA_astrolaberef1_made).em b = ([.r (.c (.f (.b b.1.1))), .r (.agg [.a (.l 8) [.i .u64 b.1.2.1.1.2.1]])], []) := fun b => by kernel_rfl
theorem e_astrolaberef1_made {f : (Bool) → (Nat → Int) → Option (Bool × (Nat → Int))} {args : List AV} {h : List Blk} {r : Res} (hr : (F_astrolaberef1_made f args h).eval = some r) : ∃ x0 x1, args = [.r (.c (.f (.b x0))), .r (.agg [.a (.l 8) [.i .u64 x1]])] ∧ h = [] ∧ (f x0 x1).bind (fun (d : Bool × (Nat → Int)) => some (Res.mk (AV.r (RV.agg [Sg.c (CV.f (FV.b d.1)), Sg.a (Sz.l 8) [Col.i IntKind.u64 d.2]])) [] [])) = some r := by
  unfold F_astrolaberef1_made at hr
  split at hr
  · rename_i b hb
    have e := ((QA_astrolaberef1_made).ok _ _ hb).trans (qa_astrolaberef1_made b)
    rw [opt_eval2] at hr
    exact ⟨b.1.1, b.1.2.1.1.2.1, (Prod.mk.inj e).1, (Prod.mk.inj e).2, hr⟩
  · cases hr
theorem n_astrolaberef1_made {σ : Type} (q : (Bool × (Nat → Int)) → Option σ) (x0 : Bool) (x1 : Nat → Int) : (f_astrolaberef1_made x0 x1).bind q = K_astrolaberef1_made f_astrolaberef1_zero  x0 x1 q := by
  unfold f_astrolaberef1_made
  exact m_astrolaberef1_made q f_astrolaberef1_zero   x0 x1 some
theorem s_astrolaberef1_made : Sound Try.prog 58 (F_astrolaberef1_made f_astrolaberef1_made) :=
  (inl_sound (l := [(64, F_astrolaberef1_zero f_astrolaberef1_zero)]) (.cons s_astrolaberef1_zero (.nil _)) mixed [] [] 300 (by kernel_rfl)).by (F := F_astrolaberef1_made f_astrolaberef1_made) fun args b r hr => by
  obtain ⟨x0, x1, rfl, rfl, hr1⟩ := e_astrolaberef1_made hr
  exact inl_eval ((d_astrolaberef1_made f_astrolaberef1_zero  x0 x1).trans ((n_astrolaberef1_made (fun (d : Bool × (Nat → Int)) => some (Res.mk (AV.r (RV.agg [Sg.c (CV.f (FV.b d.1)), Sg.a (Sz.l 8) [Col.i IntKind.u64 d.2]])) [] [])) x0 x1).symm.trans hr1))

def K_astrolaberef1_Of {ρ : Type} (g_astrolaberef1_size : Int → Option Int) (g_astrolaberef1_made : Bool → (Nat → Int) → Option (Bool × (Nat → Int)))  (x0 : Int) (k : (Bool × (Nat → Int)) → Option ρ) : Option ρ :=
  Option.bind (g_astrolaberef1_size x0) fun (d : Int) =>
    Option.bind
      (g_astrolaberef1_made (decide (x0 < 0)) fun (j : Nat) =>
        bif Nat.beq j 1 then Int.fdiv d 4294967296 else bif Nat.beq j 0 then IntKind.wrap IntKind.u64 (Int.ofNat (BitVec.toNat (BitVec.ofInt 64 d &&& BitVec.ofInt 64 4294967295))) else 0)
      fun (d : Bool × (Nat → Int)) => k (d.1, d.2)
def f_astrolaberef1_Of (x0 : Int) : Option (Bool × (Nat → Int)) := K_astrolaberef1_Of f_astrolaberef1_size f_astrolaberef1_made  x0 some
section
open Go.Ab.Rdr
def QA_astrolaberef1_Of := ((pair (cons (ar (rc (cf (fi .i64 hole)))) nil) nil) : Rdr (List AV × List Blk) _)
end
def F_astrolaberef1_Of (f : (Int) → Option (Bool × (Nat → Int))) : Sem1 := fun args h => match (QA_astrolaberef1_Of).rd (args, h) with
  | some b => .opt (f b.1.1) fun (d : Bool × (Nat → Int)) => .leaf (Res.mk (AV.r (RV.agg [Sg.c (CV.f (FV.b d.1)), Sg.a (Sz.l 8) [Col.i IntKind.u64 d.2]])) [] [])
  | none => .fail
theorem d_astrolaberef1_Of (g_astrolaberef1_size : Int → Option Int) (g_astrolaberef1_made : Bool → (Nat → Int) → Option (Bool × (Nat → Int)))  (x0 : Int) : den Try.prog (envOf [(57, F_astrolaberef1_size g_astrolaberef1_size), (58, F_astrolaberef1_made g_astrolaberef1_made)]) ⟨[], [], [], [], none⟩ 300 22 [.r (.c (.f (.i .i64 x0)))] [] =
    K_astrolaberef1_Of g_astrolaberef1_size g_astrolaberef1_made  x0 (fun (d : Bool × (Nat → Int)) => some (Res.mk (AV.r (RV.agg [Sg.c (CV.f (FV.b d.1)), Sg.a (Sz.l 8) [Col.i IntKind.u64 d.2]])) [] [])) := by kernel_rfl
theorem m_astrolaberef1_Of {ρ σ : Type} (q : ρ → Option σ) (g_astrolaberef1_size : Int → Option Int) (g_astrolaberef1_made : Bool → (Nat → Int) → Option (Bool × (Nat → Int)))   (x0 : Int) (k : (Bool × (Nat → Int)) → Option ρ) : (K_astrolaberef1_Of g_astrolaberef1_size g_astrolaberef1_made  x0 k).bind q = K_astrolaberef1_Of g_astrolaberef1_size g_astrolaberef1_made  x0 (fun d => (k d).bind q) := by
  simp only [K_astrolaberef1_Of, bnd_cond, bnd_bind, bnd_none, bnd_sum]
theorem qa_astrolaberef1_Of : ∀ b, (QA_astrolaberef1_Of).em b = ([.r (.c (.f (.i .i64 b.1.1)))], []) := fun b => by kernel_rfl
theorem e_astrolaberef1_Of {f : (Int) → Option (Bool × (Nat → Int))} {args : List AV} {h : List Blk} {r : Res} (hr : (F_astrolaberef1_Of f args h).eval = some r) : ∃ x0, args = [.r (.c (.f (.i .i64 x0)))] ∧ h = [] ∧ (f x0).bind (fun (d : Bool × (Nat → Int)) => some (Res.mk (AV.r (RV.agg [Sg.c (CV.f (FV.b d.1)), Sg.a (Sz.l 8) [Col.i IntKind.u64 d.2]])) [] [])) = some r := by
  unfold F_astrolaberef1_Of at hr
  split at hr
  · rename_i b hb
    have e := ((QA_astrolaberef1_Of).ok _ _ hb).trans (qa_astrolaberef1_Of b)
    rw [opt_eval2] at hr
    exact ⟨b.1.1, (Prod.mk.inj e).1, (Prod.mk.inj e).2, hr⟩
  · cases hr
theorem n_astrolaberef1_Of {σ : Type} (q : (Bool × (Nat → Int)) → Option σ) (x0 : Int) : (f_astrolaberef1_Of x0).bind q = K_astrolaberef1_Of f_astrolaberef1_size f_astrolaberef1_made  x0 q := by
  unfold f_astrolaberef1_Of
  exact m_astrolaberef1_Of q f_astrolaberef1_size f_astrolaberef1_made   x0 some
theorem s_astrolaberef1_Of : Sound Try.prog 22 (F_astrolaberef1_Of f_astrolaberef1_Of) :=
  (inl_sound (l := [(57, F_astrolaberef1_size f_astrolaberef1_size), (58, F_astrolaberef1_made f_astrolaberef1_made)]) (.cons s_astrolaberef1_size (.cons s_astrolaberef1_made (.nil _))) mixed [] [] 300 (by kernel_rfl)).by (F := F_astrolaberef1_Of f_astrolaberef1_Of) fun args b r hr => by
  obtain ⟨x0, rfl, rfl, hr1⟩ := e_astrolaberef1_Of hr
  exact inl_eval ((d_astrolaberef1_Of f_astrolaberef1_size f_astrolaberef1_made  x0).trans ((n_astrolaberef1_Of (fun (d : Bool × (Nat → Int)) => some (Res.mk (AV.r (RV.agg [Sg.c (CV.f (FV.b d.1)), Sg.a (Sz.l 8) [Col.i IntKind.u64 d.2]])) [] [])) x0).symm.trans hr1))

def S_astrolaberef1_plus_0 {ρ : Type}   (x0 : Int) (x1 : Int) (x2 : Nat → Int) (x3 : Nat → Int) (x4 : Nat → Int) (c : (Int × Int × (Nat → Int) × (Nat → Int) × (Nat → Int)) → Option ρ) (x : (Int × Int × Bool × (Nat → Int) × (Nat → Int) × (Nat → Int)) → Option ρ) : Option ρ :=
  bif decide (x1 < 8) then
    bif inR x1 8 then
      bif inR x1 8 then
        bif inR x1 8 then
          bif true && Nat.ble (0 + Int.toNat x1 * 1 + 1) 8 then
            c
              (Int.fdiv (IntKind.wrap IntKind.u64 (IntKind.wrap IntKind.u64 (x0 + x2 (Int.toNat x1)) + x3 (Int.toNat x1))) 4294967296, IntKind.wrap IntKind.i64 (x1 + 1), fun (j : Nat) =>
                bif Nat.beq j (Int.toNat x1) then
                  IntKind.wrap IntKind.u64
                    (Int.ofNat (BitVec.toNat (BitVec.ofInt 64 (IntKind.wrap IntKind.u64 (IntKind.wrap IntKind.u64 (x0 + x2 (Int.toNat x1)) + x3 (Int.toNat x1))) &&& BitVec.ofInt 64 4294967295)))
                else x2 j,
                x3, x4)
          else none
        else none
      else none
    else none
  else x (x0, x1, decide (x1 < 8), x2, x3, x4)
section
open Go.Ab.Rdr
def Q_astrolaberef1_plus_0 := (st (cons aund (cons aund (cons (ar (rc (cptr (nat 0) (ok' (nat 0)) (nat 8)))) (cons (ar (rc (cptr (nat 1) (ok' (nat 0)) (nat 8)))) (cons (ar (rc (cptr (nat 2) (ok' (nat 0)) (nat 8)))) (cons (ar (rc (cf (fi .u64 hole)))) (cons (ar (rc (cf (fi .i64 hole)))) (cons aund (cons aund (cons aund (cons aund (cons aund (cons aund (cons aund (cons aund (cons aund (cons aund (cons aund (cons aund (cons aund (cons aund (cons aund (cons aund (cons aund (cons aund (cons aund (cons aund nil))))))))))))))))))))))))))) (cons (some' (cons (ga (szl (nat 8)) (cons (ki .u64 hole) nil)) nil)) (cons (some' (cons (ga (szl (nat 8)) (cons (ki .u64 hole) nil)) nil)) (cons (some' (cons (ga (szl (nat 8)) (cons (ki .u64 hole) nil)) nil)) nil))) nil)
end
theorem q_astrolaberef1_plus_0 : ∀ b, (Q_astrolaberef1_plus_0).em b = St.mk
    [AV.und, AV.und, AV.r (RV.c (CV.ptr 0 (Off.k 0) 8)), AV.r (RV.c (CV.ptr 1 (Off.k 0) 8)), AV.r (RV.c (CV.ptr 2 (Off.k 0) 8)), AV.r (RV.c (CV.f (FV.i IntKind.u64 b.1.2.2.2.2.2.1))),
      AV.r (RV.c (CV.f (FV.i IntKind.i64 b.1.2.2.2.2.2.2.1))), AV.und, AV.und, AV.und, AV.und, AV.und, AV.und, AV.und, AV.und, AV.und, AV.und, AV.und, AV.und, AV.und, AV.und, AV.und, AV.und, AV.und, AV.und, AV.und,
      AV.und]
    [some [Sg.a (Sz.l 8) [Col.i IntKind.u64 b.2.1.1.1.2.1]], some [Sg.a (Sz.l 8) [Col.i IntKind.u64 b.2.1.2.1.1.2.1]], some [Sg.a (Sz.l 8) [Col.i IntKind.u64 b.2.1.2.2.1.1.2.1]]] [] := fun b => by kernel_rfl
def R_astrolaberef1_plus_0 (l : ∀ {ρ : Type}, (Int × Int × (Nat → Int) × (Nat → Int) × (Nat → Int)) → ((Int × Int × Bool × (Nat → Int) × (Nat → Int) × (Nat → Int)) → Option ρ) → Option ρ) {ρ : Type} (s : St) (K : AX → St → Option ρ) : Option ρ := ((Q_astrolaberef1_plus_0).rd s).bind fun b => l (b.1.2.2.2.2.2.1, b.1.2.2.2.2.2.2.1, b.2.1.1.1.2.1, b.2.1.2.1.1.2.1, b.2.1.2.2.1.1.2.1) (fun d => K (AX.ex 0) (St.mk
  [AV.und, AV.und, AV.r (RV.c (CV.ptr 0 (Off.k 0) 8)), AV.r (RV.c (CV.ptr 1 (Off.k 0) 8)), AV.r (RV.c (CV.ptr 2 (Off.k 0) 8)), AV.r (RV.c (CV.f (FV.i IntKind.u64 d.1))),
    AV.r (RV.c (CV.f (FV.i IntKind.i64 d.2.1))), AV.r (RV.c (CV.f (FV.i IntKind.i64 d.2.1))), AV.r (RV.c (CV.f (FV.b d.2.2.1))), AV.und, AV.und, AV.und, AV.und, AV.und, AV.und, AV.und,
    AV.und, AV.und, AV.und, AV.und, AV.und, AV.und, AV.und, AV.und, AV.und, AV.und, AV.und]
  [some [Sg.a (Sz.l 8) [Col.i IntKind.u64 d.2.2.2.1]], some [Sg.a (Sz.l 8) [Col.i IntKind.u64 d.2.2.2.2.1]], some [Sg.a (Sz.l 8) [Col.i IntKind.u64 d.2.2.2.2.2]]] []))
theorem ms_astrolaberef1_plus_0 {ρ σ : Type}    (q : ρ → Option σ) (x0 : Int) (x1 : Int) (x2 : Nat → Int) (x3 : Nat → Int) (x4 : Nat → Int) (c : (Int × Int × (Nat → Int) × (Nat → Int) × (Nat → Int)) → Option ρ) (x : (Int × Int × Bool × (Nat → Int) × (Nat → Int) × (Nat → Int)) → Option ρ) : (S_astrolaberef1_plus_0   x0 x1 x2 x3 x4 c x).bind q = S_astrolaberef1_plus_0   x0 x1 x2 x3 x4 (fun d => (c d).bind q) (fun d => (x d).bind q) := by
  simp only [S_astrolaberef1_plus_0, bnd_cond, bnd_bind, bnd_none, bnd_sum]
def L_astrolaberef1_plus_0 {ρ : Type} (d : Int × Int × (Nat → Int) × (Nat → Int) × (Nat → Int)) (k : (Int × Int × Bool × (Nat → Int) × (Nat → Int) × (Nat → Int)) → Option ρ) : Option ρ := loopK (fun d c x => S_astrolaberef1_plus_0   d.1 d.2.1 d.2.2.1 d.2.2.2.1 d.2.2.2.2 c x) 300 d k
theorem mL_astrolaberef1_plus_0 {ρ σ : Type} (q : ρ → Option σ) (d : Int × Int × (Nat → Int) × (Nat → Int) × (Nat → Int)) (k : (Int × Int × Bool × (Nat → Int) × (Nat → Int) × (Nat → Int)) → Option ρ) : (L_astrolaberef1_plus_0 d k).bind q = L_astrolaberef1_plus_0 d fun x => (k x).bind q :=
  loopK_bind q (fun d c x => ms_astrolaberef1_plus_0    q d.1 d.2.1 d.2.2.1 d.2.2.2.1 d.2.2.2.2 c x) k _ d
theorem ds_astrolaberef1_plus_0 {ρ : Type}  (l_0 : ∀ {ρ : Type}, (Int × Int × (Nat → Int) × (Nat → Int) × (Nat → Int)) → ((Int × Int × Bool × (Nat → Int) × (Nat → Int) × (Nat → Int)) → Option ρ) → Option ρ) (x0 : Int) (x1 : Int) (x2 : Nat → Int) (x3 : Nat → Int) (x4 : Nat → Int) (c : St → Option ρ) (K : AX → St → Option ρ) :
    runC Try.prog (envOf []) ⟨[⟨3, [0, 1, 7, 8, 9, 10, 11, 12, 13, 14, 15, 16, 17, 18, 19, 20, 21, 22, 23, 24, 25, 26], []⟩], [⟨3, 0, @R_astrolaberef1_plus_0 (@l_0)⟩], [], [], (some ⟨0, [0, 1, 2, 3, 5, 6, 7, 8, 9, 10, 11, 12, 13, 14, 15, 16, 17, 18, 19, 20, 21, 22, 23, 24, 25, 26], []⟩)⟩ (tmpsOf Try.prog 60) 0 300 (loopIn Try.prog 60 3)
      (St.mk
    [AV.und, AV.und, AV.r (RV.c (CV.ptr 0 (Off.k 0) 8)), AV.r (RV.c (CV.ptr 1 (Off.k 0) 8)), AV.r (RV.c (CV.ptr 2 (Off.k 0) 8)), AV.r (RV.c (CV.f (FV.i IntKind.u64 x0))),
      AV.r (RV.c (CV.f (FV.i IntKind.i64 x1))), AV.und, AV.und, AV.und, AV.und, AV.und, AV.und, AV.und, AV.und, AV.und, AV.und, AV.und, AV.und, AV.und, AV.und, AV.und, AV.und, AV.und, AV.und, AV.und,
      AV.und]
    [some [Sg.a (Sz.l 8) [Col.i IntKind.u64 x2]], some [Sg.a (Sz.l 8) [Col.i IntKind.u64 x3]], some [Sg.a (Sz.l 8) [Col.i IntKind.u64 x4]]] [])
      (next (fun t => t.head 0 ⟨[⟨3, [0, 1, 7, 8, 9, 10, 11, 12, 13, 14, 15, 16, 17, 18, 19, 20, 21, 22, 23, 24, 25, 26], []⟩], [⟨3, 0, @R_astrolaberef1_plus_0 (@l_0)⟩], [], [], (some ⟨0, [0, 1, 2, 3, 5, 6, 7, 8, 9, 10, 11, 12, 13, 14, 15, 16, 17, 18, 19, 20, 21, 22, 23, 24, 25, 26], []⟩)⟩ (loopIn Try.prog 60 3)) c K) =
    S_astrolaberef1_plus_0   x0 x1 x2 x3 x4 (fun d => c (St.mk
  [AV.und, AV.und, AV.r (RV.c (CV.ptr 0 (Off.k 0) 8)), AV.r (RV.c (CV.ptr 1 (Off.k 0) 8)), AV.r (RV.c (CV.ptr 2 (Off.k 0) 8)), AV.r (RV.c (CV.f (FV.i IntKind.u64 d.1))),
    AV.r (RV.c (CV.f (FV.i IntKind.i64 d.2.1))), AV.und, AV.und, AV.und, AV.und, AV.und, AV.und, AV.und, AV.und, AV.und, AV.und, AV.und, AV.und, AV.und, AV.und, AV.und, AV.und, AV.und, AV.und,
    AV.und, AV.und]
  [some [Sg.a (Sz.l 8) [Col.i IntKind.u64 d.2.2.1]], some [Sg.a (Sz.l 8) [Col.i IntKind.u64 d.2.2.2.1]], some [Sg.a (Sz.l 8) [Col.i IntKind.u64 d.2.2.2.2]]] [])) (fun d => K (AX.ex 0) (St.mk
  [AV.und, AV.und, AV.r (RV.c (CV.ptr 0 (Off.k 0) 8)), AV.r (RV.c (CV.ptr 1 (Off.k 0) 8)), AV.r (RV.c (CV.ptr 2 (Off.k 0) 8)), AV.r (RV.c (CV.f (FV.i IntKind.u64 d.1))),
    AV.r (RV.c (CV.f (FV.i IntKind.i64 d.2.1))), AV.r (RV.c (CV.f (FV.i IntKind.i64 d.2.1))), AV.r (RV.c (CV.f (FV.b d.2.2.1))), AV.und, AV.und, AV.und, AV.und, AV.und, AV.und, AV.und,
    AV.und, AV.und, AV.und, AV.und, AV.und, AV.und, AV.und, AV.und, AV.und, AV.und, AV.und]
  [some [Sg.a (Sz.l 8) [Col.i IntKind.u64 d.2.2.2.1]], some [Sg.a (Sz.l 8) [Col.i IntKind.u64 d.2.2.2.2.1]], some [Sg.a (Sz.l 8) [Col.i IntKind.u64 d.2.2.2.2.2]]] [])) := by kernel_rfl
theorem it_astrolaberef1_plus_0 {ρ : Type} (x0 : Int) (x1 : Int) (x2 : Nat → Int) (x3 : Nat → Int) (x4 : Nat → Int) (K : AX → St → Option ρ) :
    iter (fun t => t.head 0 ⟨[⟨3, [0, 1, 7, 8, 9, 10, 11, 12, 13, 14, 15, 16, 17, 18, 19, 20, 21, 22, 23, 24, 25, 26], []⟩], [⟨3, 0, @R_astrolaberef1_plus_0 (@L_astrolaberef1_plus_0)⟩], [], [], (some ⟨0, [0, 1, 2, 3, 5, 6, 7, 8, 9, 10, 11, 12, 13, 14, 15, 16, 17, 18, 19, 20, 21, 22, 23, 24, 25, 26], []⟩)⟩ (loopIn Try.prog 60 3)) (runC Try.prog (envOf []) ⟨[⟨3, [0, 1, 7, 8, 9, 10, 11, 12, 13, 14, 15, 16, 17, 18, 19, 20, 21, 22, 23, 24, 25, 26], []⟩], [⟨3, 0, @R_astrolaberef1_plus_0 (@L_astrolaberef1_plus_0)⟩], [], [], (some ⟨0, [0, 1, 2, 3, 5, 6, 7, 8, 9, 10, 11, 12, 13, 14, 15, 16, 17, 18, 19, 20, 21, 22, 23, 24, 25, 26], []⟩)⟩ (tmpsOf Try.prog 60) 0 300 (loopIn Try.prog 60 3)) K 300
      (St.mk
    [AV.und, AV.und, AV.r (RV.c (CV.ptr 0 (Off.k 0) 8)), AV.r (RV.c (CV.ptr 1 (Off.k 0) 8)), AV.r (RV.c (CV.ptr 2 (Off.k 0) 8)), AV.r (RV.c (CV.f (FV.i IntKind.u64 x0))),
      AV.r (RV.c (CV.f (FV.i IntKind.i64 x1))), AV.und, AV.und, AV.und, AV.und, AV.und, AV.und, AV.und, AV.und, AV.und, AV.und, AV.und, AV.und, AV.und, AV.und, AV.und, AV.und, AV.und, AV.und, AV.und,
      AV.und]
    [some [Sg.a (Sz.l 8) [Col.i IntKind.u64 x2]], some [Sg.a (Sz.l 8) [Col.i IntKind.u64 x3]], some [Sg.a (Sz.l 8) [Col.i IntKind.u64 x4]]] []) = L_astrolaberef1_plus_0 (x0, x1, x2, x3, x4) (fun d => K (AX.ex 0) (St.mk
  [AV.und, AV.und, AV.r (RV.c (CV.ptr 0 (Off.k 0) 8)), AV.r (RV.c (CV.ptr 1 (Off.k 0) 8)), AV.r (RV.c (CV.ptr 2 (Off.k 0) 8)), AV.r (RV.c (CV.f (FV.i IntKind.u64 d.1))),
    AV.r (RV.c (CV.f (FV.i IntKind.i64 d.2.1))), AV.r (RV.c (CV.f (FV.i IntKind.i64 d.2.1))), AV.r (RV.c (CV.f (FV.b d.2.2.1))), AV.und, AV.und, AV.und, AV.und, AV.und, AV.und, AV.und,
    AV.und, AV.und, AV.und, AV.und, AV.und, AV.und, AV.und, AV.und, AV.und, AV.und, AV.und]
  [some [Sg.a (Sz.l 8) [Col.i IntKind.u64 d.2.2.2.1]], some [Sg.a (Sz.l 8) [Col.i IntKind.u64 d.2.2.2.2.1]], some [Sg.a (Sz.l 8) [Col.i IntKind.u64 d.2.2.2.2.2]]] [])) :=
  iter_loopX (emb := fun (d : Int × Int × (Nat → Int) × (Nat → Int) × (Nat → Int)) => St.mk
  [AV.und, AV.und, AV.r (RV.c (CV.ptr 0 (Off.k 0) 8)), AV.r (RV.c (CV.ptr 1 (Off.k 0) 8)), AV.r (RV.c (CV.ptr 2 (Off.k 0) 8)), AV.r (RV.c (CV.f (FV.i IntKind.u64 d.1))),
    AV.r (RV.c (CV.f (FV.i IntKind.i64 d.2.1))), AV.und, AV.und, AV.und, AV.und, AV.und, AV.und, AV.und, AV.und, AV.und, AV.und, AV.und, AV.und, AV.und, AV.und, AV.und, AV.und, AV.und, AV.und,
    AV.und, AV.und]
  [some [Sg.a (Sz.l 8) [Col.i IntKind.u64 d.2.2.1]], some [Sg.a (Sz.l 8) [Col.i IntKind.u64 d.2.2.2.1]], some [Sg.a (Sz.l 8) [Col.i IntKind.u64 d.2.2.2.2]]] []) (step := fun d c x => S_astrolaberef1_plus_0   d.1 d.2.1 d.2.2.1 d.2.2.2.1 d.2.2.2.2 c x) (kx := (fun d => K (AX.ex 0) (St.mk
  [AV.und, AV.und, AV.r (RV.c (CV.ptr 0 (Off.k 0) 8)), AV.r (RV.c (CV.ptr 1 (Off.k 0) 8)), AV.r (RV.c (CV.ptr 2 (Off.k 0) 8)), AV.r (RV.c (CV.f (FV.i IntKind.u64 d.1))),
    AV.r (RV.c (CV.f (FV.i IntKind.i64 d.2.1))), AV.r (RV.c (CV.f (FV.i IntKind.i64 d.2.1))), AV.r (RV.c (CV.f (FV.b d.2.2.1))), AV.und, AV.und, AV.und, AV.und, AV.und, AV.und, AV.und,
    AV.und, AV.und, AV.und, AV.und, AV.und, AV.und, AV.und, AV.und, AV.und, AV.und, AV.und]
  [some [Sg.a (Sz.l 8) [Col.i IntKind.u64 d.2.2.2.1]], some [Sg.a (Sz.l 8) [Col.i IntKind.u64 d.2.2.2.2.1]], some [Sg.a (Sz.l 8) [Col.i IntKind.u64 d.2.2.2.2.2]]] [])))
    (fun d c => ds_astrolaberef1_plus_0  (@L_astrolaberef1_plus_0) d.1 d.2.1 d.2.2.1 d.2.2.2.1 d.2.2.2.2 c K) 300 (x0, x1, x2, x3, x4)
theorem so_astrolaberef1_plus_0 : ∀ kk, SumOK Try.prog (envOf []) ⟨[⟨3, [0, 1, 7, 8, 9, 10, 11, 12, 13, 14, 15, 16, 17, 18, 19, 20, 21, 22, 23, 24, 25, 26], []⟩], [⟨3, 0, @R_astrolaberef1_plus_0 (@L_astrolaberef1_plus_0)⟩], [], [], (some ⟨0, [0, 1, 2, 3, 5, 6, 7, 8, 9, 10, 11, 12, 13, 14, 15, 16, 17, 18, 19, 20, 21, 22, 23, 24, 25, 26], []⟩)⟩ (tmpsOf Try.prog 60) kk 300 (loopIn Try.prog 60 3) :=
  SumOK.of (id := 3) (k0 := 0) (run := @R_astrolaberef1_plus_0 (@L_astrolaberef1_plus_0)) (by kernel_rfl) fun s K r hr => by
    unfold R_astrolaberef1_plus_0 at hr
    obtain ⟨b, hb, hr1⟩ := Option.bind_eq_some_iff.1 hr
    have e := ((Q_astrolaberef1_plus_0).ok s b hb).trans (q_astrolaberef1_plus_0 b)
    subst e
    exact ⟨300, (it_astrolaberef1_plus_0 b.1.2.2.2.2.2.1 b.1.2.2.2.2.2.2.1 b.2.1.1.1.2.1 b.2.1.2.1.1.2.1 b.2.1.2.2.1.1.2.1 K).trans hr1⟩
def K_astrolaberef1_plus {ρ : Type}  (l_0 : ∀ {ρ : Type}, (Int × Int × (Nat → Int) × (Nat → Int) × (Nat → Int)) → ((Int × Int × Bool × (Nat → Int) × (Nat → Int) × (Nat → Int)) → Option ρ) → Option ρ) (x0 : Nat → Int) (x1 : Nat → Int) (k : (Nat → Int) → Option ρ) : Option ρ :=
  l_0 (0, 0, x0, x1, fun (x : Nat) => 0) fun (d : Int × Int × Bool × (Nat → Int) × (Nat → Int) × (Nat → Int)) => k d.2.2.2.1
def f_astrolaberef1_plus (x0 : Nat → Int) (x1 : Nat → Int) : Option (Nat → Int) := K_astrolaberef1_plus  (@L_astrolaberef1_plus_0) x0 x1 some
section
open Go.Ab.Rdr
def QA_astrolaberef1_plus := ((pair (cons (ar (ra (cons (ga (szl (nat 8)) (cons (ki .u64 hole) nil)) nil))) (cons (ar (ra (cons (ga (szl (nat 8)) (cons (ki .u64 hole) nil)) nil))) nil)) nil) : Rdr (List AV × List Blk) _)
end
def F_astrolaberef1_plus (f : (Nat → Int) → (Nat → Int) → Option (Nat → Int)) : Sem1 := fun args h => match (QA_astrolaberef1_plus).rd (args, h) with
  | some b => .opt (f b.1.1.1.2.1 b.1.2.1.1.2.1) fun (d : Nat → Int) => .leaf (Res.mk (AV.r (RV.agg [Sg.a (Sz.l 8) [Col.i IntKind.u64 d]])) [] [])
  | none => .fail
theorem d_astrolaberef1_plus  (l_0 : ∀ {ρ : Type}, (Int × Int × (Nat → Int) × (Nat → Int) × (Nat → Int)) → ((Int × Int × Bool × (Nat → Int) × (Nat → Int) × (Nat → Int)) → Option ρ) → Option ρ) (x0 : Nat → Int) (x1 : Nat → Int) : den Try.prog (envOf []) ⟨[⟨3, [0, 1, 7, 8, 9, 10, 11, 12, 13, 14, 15, 16, 17, 18, 19, 20, 21, 22, 23, 24, 25, 26], []⟩], [⟨3, 0, @R_astrolaberef1_plus_0 (@l_0)⟩], [], [], (some ⟨0, [0, 1, 2, 3, 5, 6, 7, 8, 9, 10, 11, 12, 13, 14, 15, 16, 17, 18, 19, 20, 21, 22, 23, 24, 25, 26], []⟩)⟩ 300 60 [.r (.agg [.a (.l 8) [.i .u64 x0]]), .r (.agg [.a (.l 8) [.i .u64 x1]])] [] =
    K_astrolaberef1_plus  (@l_0) x0 x1 (fun (d : Nat → Int) => some (Res.mk (AV.r (RV.agg [Sg.a (Sz.l 8) [Col.i IntKind.u64 d]])) [] [])) := by kernel_rfl
theorem m_astrolaberef1_plus {ρ σ : Type} (q : ρ → Option σ)  (l_0 : ∀ {ρ : Type}, (Int × Int × (Nat → Int) × (Nat → Int) × (Nat → Int)) → ((Int × Int × Bool × (Nat → Int) × (Nat → Int) × (Nat → Int)) → Option ρ) → Option ρ) (hl_0 : ∀ {ρ σ : Type} (q : ρ → Option σ) (d : Int × Int × (Nat → Int) × (Nat → Int) × (Nat → Int)) (k : (Int × Int × Bool × (Nat → Int) × (Nat → Int) × (Nat → Int)) → Option ρ), (l_0 d k).bind q = l_0 d fun x => (k x).bind q) (x0 : Nat → Int) (x1 : Nat → Int) (k : (Nat → Int) → Option ρ) : (K_astrolaberef1_plus  (@l_0) x0 x1 k).bind q = K_astrolaberef1_plus  (@l_0) x0 x1 (fun d => (k d).bind q) := by
  simp only [K_astrolaberef1_plus, bnd_cond, bnd_bind, bnd_none, bnd_sum, hl_0]
theorem qa_astrolaberef1_plus : ∀ b, (QA_astrolaberef1_plus).em b = ([.r (.agg [.a (.l 8) [.i .u64 b.1.1.1.2.1]]), .r (.agg [.a (.l 8) [.i .u64 b.1.2.1.1.2.1]])], []) := fun b => by kernel_rfl
theorem e_astrolaberef1_plus {f : (Nat → Int) → (Nat → Int) → Option (Nat → Int)} {args : List AV} {h : List Blk} {r : Res} (hr : (F_astrolaberef1_plus f args h).eval = some r) : ∃ x0 x1, args = [.r (.agg [.a (.l 8) [.i .u64 x0]]), .r (.agg [.a (.l 8) [.i .u64 x1]])] ∧ h = [] ∧ (f x0 x1).bind (fun (d : Nat → Int) => some (Res.mk (AV.r (RV.agg [Sg.a (Sz.l 8) [Col.i IntKind.u64 d]])) [] [])) = some r := by
  unfold F_astrolaberef1_plus at hr
  split at hr
  · rename_i b hb
    have e := ((QA_astrolaberef1_plus).ok _ _ hb).trans (qa_astrolaberef1_plus b)
    rw [opt_eval2] at hr
    exact ⟨b.1.1.1.2.1, b.1.2.1.1.2.1, (Prod.mk.inj e).1, (Prod.mk.inj e).2, hr⟩
  · cases hr
theorem n_astrolaberef1_plus {σ : Type} (q : (Nat → Int) → Option σ) (x0 : Nat → Int) (x1 : Nat → Int) : (f_astrolaberef1_plus x0 x1).bind q = K_astrolaberef1_plus  (@L_astrolaberef1_plus_0) x0 x1 q := by
  unfold f_astrolaberef1_plus
  exact m_astrolaberef1_plus q  (@L_astrolaberef1_plus_0) (fun q d k => mL_astrolaberef1_plus_0 q d k) x0 x1 some
theorem s_astrolaberef1_plus : Sound Try.prog 60 (F_astrolaberef1_plus f_astrolaberef1_plus) :=
  (inl_sums (l := []) (.nil _) mixed (hs := ⟨[⟨3, [0, 1, 7, 8, 9, 10, 11, 12, 13, 14, 15, 16, 17, 18, 19, 20, 21, 22, 23, 24, 25, 26], []⟩], [⟨3, 0, @R_astrolaberef1_plus_0 (@L_astrolaberef1_plus_0)⟩], [], [], (some ⟨0, [0, 1, 2, 3, 5, 6, 7, 8, 9, 10, 11, 12, 13, 14, 15, 16, 17, 18, 19, 20, 21, 22, 23, 24, 25, 26], []⟩)⟩) (lf := 300) (Sums.by (l := [loopIn Try.prog 60 3]) (lj := []) (by kernel_rfl) ⟨so_astrolaberef1_plus_0, trivial⟩ (by kernel_rfl) trivial) (by kernel_rfl)).by (F := F_astrolaberef1_plus f_astrolaberef1_plus) fun args b r hr => by
  obtain ⟨x0, x1, rfl, rfl, hr1⟩ := e_astrolaberef1_plus hr
  exact inl_eval ((d_astrolaberef1_plus  (@L_astrolaberef1_plus_0) x0 x1).trans ((n_astrolaberef1_plus (fun (d : Nat → Int) => some (Res.mk (AV.r (RV.agg [Sg.a (Sz.l 8) [Col.i IntKind.u64 d]])) [] [])) x0 x1).symm.trans hr1))

def S_astrolaberef1_less_0 {ρ : Type}   (x0 : Int) (x1 : Nat → Int) (x2 : Nat → Int) (c : (Int × (Nat → Int) × (Nat → Int)) → Option ρ) (x : (Bool ⊕ Int × Bool × (Nat → Int) × (Nat → Int)) → Option ρ) : Option ρ :=
  bif decide (x0 ≥ 0) then
    bif inR x0 8 then
      bif inR x0 8 then
        bif x1 (Int.toNat x0) != x2 (Int.toNat x0) then bif inR x0 8 then bif inR x0 8 then x (Sum.inl (decide (x1 (Int.toNat x0) < x2 (Int.toNat x0)))) else none else none
        else c (IntKind.wrap IntKind.i64 (x0 - 1), x1, x2)
      else none
    else none
  else x (Sum.inr (x0, decide (x0 ≥ 0), x1, x2))
section
open Go.Ab.Rdr
def Q_astrolaberef1_less_0 := (st (cons aund (cons aund (cons (ar (rc (cptr (nat 0) (ok' (nat 0)) (nat 8)))) (cons (ar (rc (cptr (nat 1) (ok' (nat 0)) (nat 8)))) (cons aund (cons (ar (rc (cf (fi .i64 hole)))) (cons aund (cons aund (cons aund (cons aund (cons aund (cons aund (cons aund (cons aund (cons aund (cons aund (cons aund (cons aund (cons aund (cons aund (cons aund (cons aund (cons aund (cons aund nil)))))))))))))))))))))))) (cons (some' (cons (ga (szl (nat 8)) (cons (ki .u64 hole) nil)) nil)) (cons (some' (cons (ga (szl (nat 8)) (cons (ki .u64 hole) nil)) nil)) nil)) nil)
end
theorem q_astrolaberef1_less_0 : ∀ b, (Q_astrolaberef1_less_0).em b = St.mk
    [AV.und, AV.und, AV.r (RV.c (CV.ptr 0 (Off.k 0) 8)), AV.r (RV.c (CV.ptr 1 (Off.k 0) 8)), AV.und, AV.r (RV.c (CV.f (FV.i IntKind.i64 b.1.2.2.2.2.2.1))), AV.und, AV.und, AV.und, AV.und, AV.und, AV.und, AV.und,
      AV.und, AV.und, AV.und, AV.und, AV.und, AV.und, AV.und, AV.und, AV.und, AV.und, AV.und]
    [some [Sg.a (Sz.l 8) [Col.i IntKind.u64 b.2.1.1.1.2.1]], some [Sg.a (Sz.l 8) [Col.i IntKind.u64 b.2.1.2.1.1.2.1]]] [] := fun b => by kernel_rfl
def R_astrolaberef1_less_0 (l : ∀ {ρ : Type}, (Int × (Nat → Int) × (Nat → Int)) → ((Bool ⊕ Int × Bool × (Nat → Int) × (Nat → Int)) → Option ρ) → Option ρ) {ρ : Type} (s : St) (K : AX → St → Option ρ) : Option ρ := ((Q_astrolaberef1_less_0).rd s).bind fun b => l (b.1.2.2.2.2.2.1, b.2.1.1.1.2.1, b.2.1.2.1.1.2.1) (Sum.elim (fun d => K (AX.ret) (St.mk
  [AV.und, AV.und, AV.und, AV.und, AV.r (RV.c (CV.f (FV.b d))), AV.und, AV.und, AV.und, AV.und, AV.und, AV.und, AV.und, AV.und, AV.und, AV.und, AV.und, AV.und, AV.und, AV.und, AV.und, AV.und, AV.und,
    AV.und, AV.und]
  [] [])) (fun d => K (AX.ex 0) (St.mk
  [AV.und, AV.und, AV.r (RV.c (CV.ptr 0 (Off.k 0) 8)), AV.r (RV.c (CV.ptr 1 (Off.k 0) 8)), AV.und, AV.r (RV.c (CV.f (FV.i IntKind.i64 d.1))), AV.r (RV.c (CV.f (FV.i IntKind.i64 d.1))),
    AV.r (RV.c (CV.f (FV.b d.2.1))), AV.und, AV.und, AV.und, AV.und, AV.und, AV.und, AV.und, AV.und, AV.und, AV.und, AV.und, AV.und, AV.und, AV.und, AV.und, AV.und]
  [some [Sg.a (Sz.l 8) [Col.i IntKind.u64 d.2.2.1]], some [Sg.a (Sz.l 8) [Col.i IntKind.u64 d.2.2.2]]] [])))
theorem ms_astrolaberef1_less_0 {ρ σ : Type}    (q : ρ → Option σ) (x0 : Int) (x1 : Nat → Int) (x2 : Nat → Int) (c : (Int × (Nat → Int) × (Nat → Int)) → Option ρ) (x : (Bool ⊕ Int × Bool × (Nat → Int) × (Nat → Int)) → Option ρ) : (S_astrolaberef1_less_0   x0 x1 x2 c x).bind q = S_astrolaberef1_less_0   x0 x1 x2 (fun d => (c d).bind q) (fun d => (x d).bind q) := by
  simp only [S_astrolaberef1_less_0, bnd_cond, bnd_bind, bnd_none, bnd_sum]
def L_astrolaberef1_less_0 {ρ : Type} (d : Int × (Nat → Int) × (Nat → Int)) (k : (Bool ⊕ Int × Bool × (Nat → Int) × (Nat → Int)) → Option ρ) : Option ρ := loopK (fun d c x => S_astrolaberef1_less_0   d.1 d.2.1 d.2.2 c x) 300 d k
theorem mL_astrolaberef1_less_0 {ρ σ : Type} (q : ρ → Option σ) (d : Int × (Nat → Int) × (Nat → Int)) (k : (Bool ⊕ Int × Bool × (Nat → Int) × (Nat → Int)) → Option ρ) : (L_astrolaberef1_less_0 d k).bind q = L_astrolaberef1_less_0 d fun x => (k x).bind q :=
  loopK_bind q (fun d c x => ms_astrolaberef1_less_0    q d.1 d.2.1 d.2.2 c x) k _ d
theorem ds_astrolaberef1_less_0 {ρ : Type}  (l_0 : ∀ {ρ : Type}, (Int × (Nat → Int) × (Nat → Int)) → ((Bool ⊕ Int × Bool × (Nat → Int) × (Nat → Int)) → Option ρ) → Option ρ) (x0 : Int) (x1 : Nat → Int) (x2 : Nat → Int) (c : St → Option ρ) (K : AX → St → Option ρ) :
    runC Try.prog (envOf []) ⟨[⟨2, [0, 1, 4, 6, 7, 8, 9, 10, 11, 12, 13, 14, 15, 16, 17, 18, 19, 20, 21, 22, 23], []⟩], [⟨2, 0, @R_astrolaberef1_less_0 (@l_0)⟩], [], [], (some ⟨0, [0, 1, 2, 3, 5, 6, 7, 8, 9, 10, 11, 12, 13, 14, 15, 16, 17, 18, 19, 20, 21, 22, 23], []⟩)⟩ (tmpsOf Try.prog 61) 0 300 (loopIn Try.prog 61 2)
      (St.mk
    [AV.und, AV.und, AV.r (RV.c (CV.ptr 0 (Off.k 0) 8)), AV.r (RV.c (CV.ptr 1 (Off.k 0) 8)), AV.und, AV.r (RV.c (CV.f (FV.i IntKind.i64 x0))), AV.und, AV.und, AV.und, AV.und, AV.und, AV.und, AV.und,
      AV.und, AV.und, AV.und, AV.und, AV.und, AV.und, AV.und, AV.und, AV.und, AV.und, AV.und]
    [some [Sg.a (Sz.l 8) [Col.i IntKind.u64 x1]], some [Sg.a (Sz.l 8) [Col.i IntKind.u64 x2]]] [])
      (next (fun t => t.head 0 ⟨[⟨2, [0, 1, 4, 6, 7, 8, 9, 10, 11, 12, 13, 14, 15, 16, 17, 18, 19, 20, 21, 22, 23], []⟩], [⟨2, 0, @R_astrolaberef1_less_0 (@l_0)⟩], [], [], (some ⟨0, [0, 1, 2, 3, 5, 6, 7, 8, 9, 10, 11, 12, 13, 14, 15, 16, 17, 18, 19, 20, 21, 22, 23], []⟩)⟩ (loopIn Try.prog 61 2)) c K) =
    S_astrolaberef1_less_0   x0 x1 x2 (fun d => c (St.mk
  [AV.und, AV.und, AV.r (RV.c (CV.ptr 0 (Off.k 0) 8)), AV.r (RV.c (CV.ptr 1 (Off.k 0) 8)), AV.und, AV.r (RV.c (CV.f (FV.i IntKind.i64 d.1))), AV.und, AV.und, AV.und, AV.und, AV.und, AV.und, AV.und,
    AV.und, AV.und, AV.und, AV.und, AV.und, AV.und, AV.und, AV.und, AV.und, AV.und, AV.und]
  [some [Sg.a (Sz.l 8) [Col.i IntKind.u64 d.2.1]], some [Sg.a (Sz.l 8) [Col.i IntKind.u64 d.2.2]]] [])) (Sum.elim (fun d => K (AX.ret) (St.mk
  [AV.und, AV.und, AV.und, AV.und, AV.r (RV.c (CV.f (FV.b d))), AV.und, AV.und, AV.und, AV.und, AV.und, AV.und, AV.und, AV.und, AV.und, AV.und, AV.und, AV.und, AV.und, AV.und, AV.und, AV.und, AV.und,
    AV.und, AV.und]
  [] [])) (fun d => K (AX.ex 0) (St.mk
  [AV.und, AV.und, AV.r (RV.c (CV.ptr 0 (Off.k 0) 8)), AV.r (RV.c (CV.ptr 1 (Off.k 0) 8)), AV.und, AV.r (RV.c (CV.f (FV.i IntKind.i64 d.1))), AV.r (RV.c (CV.f (FV.i IntKind.i64 d.1))),
    AV.r (RV.c (CV.f (FV.b d.2.1))), AV.und, AV.und, AV.und, AV.und, AV.und, AV.und, AV.und, AV.und, AV.und, AV.und, AV.und, AV.und, AV.und, AV.und, AV.und, AV.und]
  [some [Sg.a (Sz.l 8) [Col.i IntKind.u64 d.2.2.1]], some [Sg.a (Sz.l 8) [Col.i IntKind.u64 d.2.2.2]]] []))) := by kernel_rfl
theorem it_astrolaberef1_less_0 {ρ : Type} (x0 : Int) (x1 : Nat → Int) (x2 : Nat → Int) (K : AX → St → Option ρ) :
    iter (fun t => t.head 0 ⟨[⟨2, [0, 1, 4, 6, 7, 8, 9, 10, 11, 12, 13, 14, 15, 16, 17, 18, 19, 20, 21, 22, 23], []⟩], [⟨2, 0, @R_astrolaberef1_less_0 (@L_astrolaberef1_less_0)⟩], [], [], (some ⟨0, [0, 1, 2, 3, 5, 6, 7, 8, 9, 10, 11, 12, 13, 14, 15, 16, 17, 18, 19, 20, 21, 22, 23], []⟩)⟩ (loopIn Try.prog 61 2)) (runC Try.prog (envOf []) ⟨[⟨2, [0, 1, 4, 6, 7, 8, 9, 10, 11, 12, 13, 14, 15, 16, 17, 18, 19, 20, 21, 22, 23], []⟩], [⟨2, 0, @R_astrolaberef1_less_0 (@L_astrolaberef1_less_0)⟩], [], [], (some ⟨0, [0, 1, 2, 3, 5, 6, 7, 8, 9, 10, 11, 12, 13, 14, 15, 16, 17, 18, 19, 20, 21, 22, 23], []⟩)⟩ (tmpsOf Try.prog 61) 0 300 (loopIn Try.prog 61 2)) K 300
      (St.mk
    [AV.und, AV.und, AV.r (RV.c (CV.ptr 0 (Off.k 0) 8)), AV.r (RV.c (CV.ptr 1 (Off.k 0) 8)), AV.und, AV.r (RV.c (CV.f (FV.i IntKind.i64 x0))), AV.und, AV.und, AV.und, AV.und, AV.und, AV.und, AV.und,
      AV.und, AV.und, AV.und, AV.und, AV.und, AV.und, AV.und, AV.und, AV.und, AV.und, AV.und]
    [some [Sg.a (Sz.l 8) [Col.i IntKind.u64 x1]], some [Sg.a (Sz.l 8) [Col.i IntKind.u64 x2]]] []) = L_astrolaberef1_less_0 (x0, x1, x2) (Sum.elim (fun d => K (AX.ret) (St.mk
  [AV.und, AV.und, AV.und, AV.und, AV.r (RV.c (CV.f (FV.b d))), AV.und, AV.und, AV.und, AV.und, AV.und, AV.und, AV.und, AV.und, AV.und, AV.und, AV.und, AV.und, AV.und, AV.und, AV.und, AV.und, AV.und,
    AV.und, AV.und]
  [] [])) (fun d => K (AX.ex 0) (St.mk
  [AV.und, AV.und, AV.r (RV.c (CV.ptr 0 (Off.k 0) 8)), AV.r (RV.c (CV.ptr 1 (Off.k 0) 8)), AV.und, AV.r (RV.c (CV.f (FV.i IntKind.i64 d.1))), AV.r (RV.c (CV.f (FV.i IntKind.i64 d.1))),
    AV.r (RV.c (CV.f (FV.b d.2.1))), AV.und, AV.und, AV.und, AV.und, AV.und, AV.und, AV.und, AV.und, AV.und, AV.und, AV.und, AV.und, AV.und, AV.und, AV.und, AV.und]
  [some [Sg.a (Sz.l 8) [Col.i IntKind.u64 d.2.2.1]], some [Sg.a (Sz.l 8) [Col.i IntKind.u64 d.2.2.2]]] []))) :=
  iter_loopX (emb := fun (d : Int × (Nat → Int) × (Nat → Int)) => St.mk
  [AV.und, AV.und, AV.r (RV.c (CV.ptr 0 (Off.k 0) 8)), AV.r (RV.c (CV.ptr 1 (Off.k 0) 8)), AV.und, AV.r (RV.c (CV.f (FV.i IntKind.i64 d.1))), AV.und, AV.und, AV.und, AV.und, AV.und, AV.und, AV.und,
    AV.und, AV.und, AV.und, AV.und, AV.und, AV.und, AV.und, AV.und, AV.und, AV.und, AV.und]
  [some [Sg.a (Sz.l 8) [Col.i IntKind.u64 d.2.1]], some [Sg.a (Sz.l 8) [Col.i IntKind.u64 d.2.2]]] []) (step := fun d c x => S_astrolaberef1_less_0   d.1 d.2.1 d.2.2 c x) (kx := (Sum.elim (fun d => K (AX.ret) (St.mk
  [AV.und, AV.und, AV.und, AV.und, AV.r (RV.c (CV.f (FV.b d))), AV.und, AV.und, AV.und, AV.und, AV.und, AV.und, AV.und, AV.und, AV.und, AV.und, AV.und, AV.und, AV.und, AV.und, AV.und, AV.und, AV.und,
    AV.und, AV.und]
  [] [])) (fun d => K (AX.ex 0) (St.mk
  [AV.und, AV.und, AV.r (RV.c (CV.ptr 0 (Off.k 0) 8)), AV.r (RV.c (CV.ptr 1 (Off.k 0) 8)), AV.und, AV.r (RV.c (CV.f (FV.i IntKind.i64 d.1))), AV.r (RV.c (CV.f (FV.i IntKind.i64 d.1))),
    AV.r (RV.c (CV.f (FV.b d.2.1))), AV.und, AV.und, AV.und, AV.und, AV.und, AV.und, AV.und, AV.und, AV.und, AV.und, AV.und, AV.und, AV.und, AV.und, AV.und, AV.und]
  [some [Sg.a (Sz.l 8) [Col.i IntKind.u64 d.2.2.1]], some [Sg.a (Sz.l 8) [Col.i IntKind.u64 d.2.2.2]]] []))))
    (fun d c => ds_astrolaberef1_less_0  (@L_astrolaberef1_less_0) d.1 d.2.1 d.2.2 c K) 300 (x0, x1, x2)
theorem so_astrolaberef1_less_0 : ∀ kk, SumOK Try.prog (envOf []) ⟨[⟨2, [0, 1, 4, 6, 7, 8, 9, 10, 11, 12, 13, 14, 15, 16, 17, 18, 19, 20, 21, 22, 23], []⟩], [⟨2, 0, @R_astrolaberef1_less_0 (@L_astrolaberef1_less_0)⟩], [], [], (some ⟨0, [0, 1, 2, 3, 5, 6, 7, 8, 9, 10, 11, 12, 13, 14, 15, 16, 17, 18, 19, 20, 21, 22, 23], []⟩)⟩ (tmpsOf Try.prog 61) kk 300 (loopIn Try.prog 61 2) :=
  SumOK.of (id := 2) (k0 := 0) (run := @R_astrolaberef1_less_0 (@L_astrolaberef1_less_0)) (by kernel_rfl) fun s K r hr => by
    unfold R_astrolaberef1_less_0 at hr
    obtain ⟨b, hb, hr1⟩ := Option.bind_eq_some_iff.1 hr
    have e := ((Q_astrolaberef1_less_0).ok s b hb).trans (q_astrolaberef1_less_0 b)
    subst e
    exact ⟨300, (it_astrolaberef1_less_0 b.1.2.2.2.2.2.1 b.2.1.1.1.2.1 b.2.1.2.1.1.2.1 K).trans hr1⟩
def K_astrolaberef1_less {ρ : Type}  (l_0 : ∀ {ρ : Type}, (Int × (Nat → Int) × (Nat → Int)) → ((Bool ⊕ Int × Bool × (Nat → Int) × (Nat → Int)) → Option ρ) → Option ρ) (x0 : Nat → Int) (x1 : Nat → Int) (k : (Bool) → Option ρ) : Option ρ :=
  l_0 (7, x0, x1) (Sum.elim (fun (d : Bool) => k d) fun (d : Int × Bool × (Nat → Int) × (Nat → Int)) => k false)
def f_astrolaberef1_less (x0 : Nat → Int) (x1 : Nat → Int) : Option (Bool) := K_astrolaberef1_less  (@L_astrolaberef1_less_0) x0 x1 some
section
open Go.Ab.Rdr
def QA_astrolaberef1_less := ((pair (cons (ar (ra (cons (ga (szl (nat 8)) (cons (ki .u64 hole) nil)) nil))) (cons (ar (ra (cons (ga (szl (nat 8)) (cons (ki .u64 hole) nil)) nil))) nil)) nil) : Rdr (List AV × List Blk) _)
end
def F_astrolaberef1_less (f : (Nat → Int) → (Nat → Int) → Option (Bool)) : Sem1 := fun args h => match (QA_astrolaberef1_less).rd (args, h) with
  | some b => .opt (f b.1.1.1.2.1 b.1.2.1.1.2.1) fun (d : Bool) => .leaf (Res.mk (AV.r (RV.c (CV.f (FV.b d)))) [] [])
  | none => .fail
theorem d_astrolaberef1_less  (l_0 : ∀ {ρ : Type}, (Int × (Nat → Int) × (Nat → Int)) → ((Bool ⊕ Int × Bool × (Nat → Int) × (Nat → Int)) → Option ρ) → Option ρ) (x0 : Nat → Int) (x1 : Nat → Int) : den Try.prog (envOf []) ⟨[⟨2, [0, 1, 4, 6, 7, 8, 9, 10, 11, 12, 13, 14, 15, 16, 17, 18, 19, 20, 21, 22, 23], []⟩], [⟨2, 0, @R_astrolaberef1_less_0 (@l_0)⟩], [], [], (some ⟨0, [0, 1, 2, 3, 5, 6, 7, 8, 9, 10, 11, 12, 13, 14, 15, 16, 17, 18, 19, 20, 21, 22, 23], []⟩)⟩ 300 61 [.r (.agg [.a (.l 8) [.i .u64 x0]]), .r (.agg [.a (.l 8) [.i .u64 x1]])] [] =
    K_astrolaberef1_less  (@l_0) x0 x1 (fun (d : Bool) => some (Res.mk (AV.r (RV.c (CV.f (FV.b d)))) [] [])) := by kernel_rfl
theorem m_astrolaberef1_less {ρ σ : Type} (q : ρ → Option σ)  (l_0 : ∀ {ρ : Type}, (Int × (Nat → Int) × (Nat → Int)) → ((Bool ⊕ Int × Bool × (Nat → Int) × (Nat → Int)) → Option ρ) → Option ρ) (hl_0 : ∀ {ρ σ : Type} (q : ρ → Option σ) (d : Int × (Nat → Int) × (Nat → Int)) (k : (Bool ⊕ Int × Bool × (Nat → Int) × (Nat → Int)) → Option ρ), (l_0 d k).bind q = l_0 d fun x => (k x).bind q) (x0 : Nat → Int) (x1 : Nat → Int) (k : (Bool) → Option ρ) : (K_astrolaberef1_less  (@l_0) x0 x1 k).bind q = K_astrolaberef1_less  (@l_0) x0 x1 (fun d => (k d).bind q) := by
  simp only [K_astrolaberef1_less, bnd_cond, bnd_bind, bnd_none, bnd_sum, hl_0]
theorem qa_astrolaberef1_less : ∀ b, (QA_astrolaberef1_less).em b = ([.r (.agg [.a (.l 8) [.i .u64 b.1.1.1.2.1]]), .r (.agg [.a (.l 8) [.i .u64 b.1.2.1.1.2.1]])], []) := fun b => by kernel_rfl
theorem e_astrolaberef1_less {f : (Nat → Int) → (Nat → Int) → Option (Bool)} {args : List AV} {h : List Blk} {r : Res} (hr : (F_astrolaberef1_less f args h).eval = some r) : ∃ x0 x1, args = [.r (.agg [.a (.l 8) [.i .u64 x0]]), .r (.agg [.a (.l 8) [.i .u64 x1]])] ∧ h = [] ∧ (f x0 x1).bind (fun (d : Bool) => some (Res.mk (AV.r (RV.c (CV.f (FV.b d)))) [] [])) = some r := by
  unfold F_astrolaberef1_less at hr
  split at hr
  · rename_i b hb
    have e := ((QA_astrolaberef1_less).ok _ _ hb).trans (qa_astrolaberef1_less b)
    rw [opt_eval2] at hr
    exact ⟨b.1.1.1.2.1, b.1.2.1.1.2.1, (Prod.mk.inj e).1, (Prod.mk.inj e).2, hr⟩
  · cases hr
theorem n_astrolaberef1_less {σ : Type} (q : (Bool) → Option σ) (x0 : Nat → Int) (x1 : Nat → Int) : (f_astrolaberef1_less x0 x1).bind q = K_astrolaberef1_less  (@L_astrolaberef1_less_0) x0 x1 q := by
  unfold f_astrolaberef1_less
  exact m_astrolaberef1_less q  (@L_astrolaberef1_less_0) (fun q d k => mL_astrolaberef1_less_0 q d k) x0 x1 some
theorem s_astrolaberef1_less : Sound Try.prog 61 (F_astrolaberef1_less f_astrolaberef1_less) :=
  (inl_sums (l := []) (.nil _) mixed (hs := ⟨[⟨2, [0, 1, 4, 6, 7, 8, 9, 10, 11, 12, 13, 14, 15, 16, 17, 18, 19, 20, 21, 22, 23], []⟩], [⟨2, 0, @R_astrolaberef1_less_0 (@L_astrolaberef1_less_0)⟩], [], [], (some ⟨0, [0, 1, 2, 3, 5, 6, 7, 8, 9, 10, 11, 12, 13, 14, 15, 16, 17, 18, 19, 20, 21, 22, 23], []⟩)⟩) (lf := 300) (Sums.by (l := [loopIn Try.prog 61 2]) (lj := []) (by kernel_rfl) ⟨so_astrolaberef1_less_0, trivial⟩ (by kernel_rfl) trivial) (by kernel_rfl)).by (F := F_astrolaberef1_less f_astrolaberef1_less) fun args b r hr => by
  obtain ⟨x0, x1, rfl, rfl, hr1⟩ := e_astrolaberef1_less hr
  exact inl_eval ((d_astrolaberef1_less  (@L_astrolaberef1_less_0) x0 x1).trans ((n_astrolaberef1_less (fun (d : Bool) => some (Res.mk (AV.r (RV.c (CV.f (FV.b d)))) [] [])) x0 x1).symm.trans hr1))

def S_astrolaberef1_minus_0 {ρ : Type}   (x0 : Int) (x1 : Int) (x2 : Nat → Int) (x3 : Nat → Int) (x4 : Nat → Int) (c : (Int × Int × (Nat → Int) × (Nat → Int) × (Nat → Int)) → Option ρ) (x : (Int × Int × Bool × (Nat → Int) × (Nat → Int) × (Nat → Int)) → Option ρ) : Option ρ :=
  bif decide (x1 < 8) then
    bif inR x1 8 then
      bif inR x1 8 then
        bif inR x1 8 then
          bif true && Nat.ble (0 + Int.toNat x1 * 1 + 1) 8 then
            c
              (Int.fdiv (IntKind.wrap IntKind.u64 (IntKind.wrap IntKind.u64 (x2 (Int.toNat x1) - x3 (Int.toNat x1)) - x0)) 9223372036854775808, IntKind.wrap IntKind.i64 (x1 + 1), fun (j : Nat) =>
                bif Nat.beq j (Int.toNat x1) then
                  IntKind.wrap IntKind.u64
                    (Int.ofNat (BitVec.toNat (BitVec.ofInt 64 (IntKind.wrap IntKind.u64 (IntKind.wrap IntKind.u64 (x2 (Int.toNat x1) - x3 (Int.toNat x1)) - x0)) &&& BitVec.ofInt 64 4294967295)))
                else x2 j,
                x3, x4)
          else none
        else none
      else none
    else none
  else x (x0, x1, decide (x1 < 8), x2, x3, x4)
section
open Go.Ab.Rdr
def Q_astrolaberef1_minus_0 := (st (cons aund (cons aund (cons (ar (rc (cptr (nat 0) (ok' (nat 0)) (nat 8)))) (cons (ar (rc (cptr (nat 1) (ok' (nat 0)) (nat 8)))) (cons (ar (rc (cptr (nat 2) (ok' (nat 0)) (nat 8)))) (cons (ar (rc (cf (fi .u64 hole)))) (cons (ar (rc (cf (fi .i64 hole)))) (cons aund (cons aund (cons aund (cons aund (cons aund (cons aund (cons aund (cons aund (cons aund (cons aund (cons aund (cons aund (cons aund (cons aund (cons aund (cons aund (cons aund (cons aund (cons aund (cons aund (cons aund nil)))))))))))))))))))))))))))) (cons (some' (cons (ga (szl (nat 8)) (cons (ki .u64 hole) nil)) nil)) (cons (some' (cons (ga (szl (nat 8)) (cons (ki .u64 hole) nil)) nil)) (cons (some' (cons (ga (szl (nat 8)) (cons (ki .u64 hole) nil)) nil)) nil))) nil)
end
theorem q_astrolaberef1_minus_0 : ∀ b, (Q_astrolaberef1_minus_0).em b = St.mk
    [AV.und, AV.und, AV.r (RV.c (CV.ptr 0 (Off.k 0) 8)), AV.r (RV.c (CV.ptr 1 (Off.k 0) 8)), AV.r (RV.c (CV.ptr 2 (Off.k 0) 8)), AV.r (RV.c (CV.f (FV.i IntKind.u64 b.1.2.2.2.2.2.1))),
      AV.r (RV.c (CV.f (FV.i IntKind.i64 b.1.2.2.2.2.2.2.1))), AV.und, AV.und, AV.und, AV.und, AV.und, AV.und, AV.und, AV.und, AV.und, AV.und, AV.und, AV.und, AV.und, AV.und, AV.und, AV.und, AV.und, AV.und, AV.und,
      AV.und, AV.und]
    [some [Sg.a (Sz.l 8) [Col.i IntKind.u64 b.2.1.1.1.2.1]], some [Sg.a (Sz.l 8) [Col.i IntKind.u64 b.2.1.2.1.1.2.1]], some [Sg.a (Sz.l 8) [Col.i IntKind.u64 b.2.1.2.2.1.1.2.1]]] [] := fun b => by kernel_rfl
def R_astrolaberef1_minus_0 (l : ∀ {ρ : Type}, (Int × Int × (Nat → Int) × (Nat → Int) × (Nat → Int)) → ((Int × Int × Bool × (Nat → Int) × (Nat → Int) × (Nat → Int)) → Option ρ) → Option ρ) {ρ : Type} (s : St) (K : AX → St → Option ρ) : Option ρ := ((Q_astrolaberef1_minus_0).rd s).bind fun b => l (b.1.2.2.2.2.2.1, b.1.2.2.2.2.2.2.1, b.2.1.1.1.2.1, b.2.1.2.1.1.2.1, b.2.1.2.2.1.1.2.1) (fun d => K (AX.ex 0) (St.mk
  [AV.und, AV.und, AV.r (RV.c (CV.ptr 0 (Off.k 0) 8)), AV.r (RV.c (CV.ptr 1 (Off.k 0) 8)), AV.r (RV.c (CV.ptr 2 (Off.k 0) 8)), AV.r (RV.c (CV.f (FV.i IntKind.u64 d.1))),
    AV.r (RV.c (CV.f (FV.i IntKind.i64 d.2.1))), AV.und, AV.r (RV.c (CV.f (FV.i IntKind.i64 d.2.1))), AV.r (RV.c (CV.f (FV.b d.2.2.1))), AV.und, AV.und, AV.und, AV.und, AV.und, AV.und,
    AV.und, AV.und, AV.und, AV.und, AV.und, AV.und, AV.und, AV.und, AV.und, AV.und, AV.und, AV.und]
  [some [Sg.a (Sz.l 8) [Col.i IntKind.u64 d.2.2.2.1]], some [Sg.a (Sz.l 8) [Col.i IntKind.u64 d.2.2.2.2.1]], some [Sg.a (Sz.l 8) [Col.i IntKind.u64 d.2.2.2.2.2]]] []))
theorem ms_astrolaberef1_minus_0 {ρ σ : Type}    (q : ρ → Option σ) (x0 : Int) (x1 : Int) (x2 : Nat → Int) (x3 : Nat → Int) (x4 : Nat → Int) (c : (Int × Int × (Nat → Int) × (Nat → Int) × (Nat → Int)) → Option ρ) (x : (Int × Int × Bool × (Nat → Int) × (Nat → Int) × (Nat → Int)) → Option ρ) : (S_astrolaberef1_minus_0   x0 x1 x2 x3 x4 c x).bind q = S_astrolaberef1_minus_0   x0 x1 x2 x3 x4 (fun d => (c d).bind q) (fun d => (x d).bind q) := by
  simp only [S_astrolaberef1_minus_0, bnd_cond, bnd_bind, bnd_none, bnd_sum]
def L_astrolaberef1_minus_0 {ρ : Type} (d : Int × Int × (Nat → Int) × (Nat → Int) × (Nat → Int)) (k : (Int × Int × Bool × (Nat → Int) × (Nat → Int) × (Nat → Int)) → Option ρ) : Option ρ := loopK (fun d c x => S_astrolaberef1_minus_0   d.1 d.2.1 d.2.2.1 d.2.2.2.1 d.2.2.2.2 c x) 300 d k
theorem mL_astrolaberef1_minus_0 {ρ σ : Type} (q : ρ → Option σ) (d : Int × Int × (Nat → Int) × (Nat → Int) × (Nat → Int)) (k : (Int × Int × Bool × (Nat → Int) × (Nat → Int) × (Nat → Int)) → Option ρ) : (L_astrolaberef1_minus_0 d k).bind q = L_astrolaberef1_minus_0 d fun x => (k x).bind q :=
  loopK_bind q (fun d c x => ms_astrolaberef1_minus_0    q d.1 d.2.1 d.2.2.1 d.2.2.2.1 d.2.2.2.2 c x) k _ d
theorem ds_astrolaberef1_minus_0 {ρ : Type}  (l_0 : ∀ {ρ : Type}, (Int × Int × (Nat → Int) × (Nat → Int) × (Nat → Int)) → ((Int × Int × Bool × (Nat → Int) × (Nat → Int) × (Nat → Int)) → Option ρ) → Option ρ) (x0 : Int) (x1 : Int) (x2 : Nat → Int) (x3 : Nat → Int) (x4 : Nat → Int) (c : St → Option ρ) (K : AX → St → Option ρ) :
    runC Try.prog (envOf []) ⟨[⟨3, [0, 1, 7, 8, 9, 10, 11, 12, 13, 14, 15, 16, 17, 18, 19, 20, 21, 22, 23, 24, 25, 26, 27], []⟩], [⟨3, 0, @R_astrolaberef1_minus_0 (@l_0)⟩], [], [], (some ⟨0, [0, 1, 2, 3, 5, 6, 7, 8, 9, 10, 11, 12, 13, 14, 15, 16, 17, 18, 19, 20, 21, 22, 23, 24, 25, 26, 27], []⟩)⟩ (tmpsOf Try.prog 62) 0 300 (loopIn Try.prog 62 3)
      (St.mk
    [AV.und, AV.und, AV.r (RV.c (CV.ptr 0 (Off.k 0) 8)), AV.r (RV.c (CV.ptr 1 (Off.k 0) 8)), AV.r (RV.c (CV.ptr 2 (Off.k 0) 8)), AV.r (RV.c (CV.f (FV.i IntKind.u64 x0))),
      AV.r (RV.c (CV.f (FV.i IntKind.i64 x1))), AV.und, AV.und, AV.und, AV.und, AV.und, AV.und, AV.und, AV.und, AV.und, AV.und, AV.und, AV.und, AV.und, AV.und, AV.und, AV.und, AV.und, AV.und, AV.und,
      AV.und, AV.und]
    [some [Sg.a (Sz.l 8) [Col.i IntKind.u64 x2]], some [Sg.a (Sz.l 8) [Col.i IntKind.u64 x3]], some [Sg.a (Sz.l 8) [Col.i IntKind.u64 x4]]] [])
      (next (fun t => t.head 0 ⟨[⟨3, [0, 1, 7, 8, 9, 10, 11, 12, 13, 14, 15, 16, 17, 18, 19, 20, 21, 22, 23, 24, 25, 26, 27], []⟩], [⟨3, 0, @R_astrolaberef1_minus_0 (@l_0)⟩], [], [], (some ⟨0, [0, 1, 2, 3, 5, 6, 7, 8, 9, 10, 11, 12, 13, 14, 15, 16, 17, 18, 19, 20, 21, 22, 23, 24, 25, 26, 27], []⟩)⟩ (loopIn Try.prog 62 3)) c K) =
    S_astrolaberef1_minus_0   x0 x1 x2 x3 x4 (fun d => c (St.mk
  [AV.und, AV.und, AV.r (RV.c (CV.ptr 0 (Off.k 0) 8)), AV.r (RV.c (CV.ptr 1 (Off.k 0) 8)), AV.r (RV.c (CV.ptr 2 (Off.k 0) 8)), AV.r (RV.c (CV.f (FV.i IntKind.u64 d.1))),
    AV.r (RV.c (CV.f (FV.i IntKind.i64 d.2.1))), AV.und, AV.und, AV.und, AV.und, AV.und, AV.und, AV.und, AV.und, AV.und, AV.und, AV.und, AV.und, AV.und, AV.und, AV.und, AV.und, AV.und, AV.und,
    AV.und, AV.und, AV.und]
  [some [Sg.a (Sz.l 8) [Col.i IntKind.u64 d.2.2.1]], some [Sg.a (Sz.l 8) [Col.i IntKind.u64 d.2.2.2.1]], some [Sg.a (Sz.l 8) [Col.i IntKind.u64 d.2.2.2.2]]] [])) (fun d => K (AX.ex 0) (St.mk
  [AV.und, AV.und, AV.r (RV.c (CV.ptr 0 (Off.k 0) 8)), AV.r (RV.c (CV.ptr 1 (Off.k 0) 8)), AV.r (RV.c (CV.ptr 2 (Off.k 0) 8)), AV.r (RV.c (CV.f (FV.i IntKind.u64 d.1))),
    AV.r (RV.c (CV.f (FV.i IntKind.i64 d.2.1))), AV.und, AV.r (RV.c (CV.f (FV.i IntKind.i64 d.2.1))), AV.r (RV.c (CV.f (FV.b d.2.2.1))), AV.und, AV.und, AV.und, AV.und, AV.und, AV.und,
    AV.und, AV.und, AV.und, AV.und, AV.und, AV.und, AV.und, AV.und, AV.und, AV.und, AV.und, AV.und]
  [some [Sg.a (Sz.l 8) [Col.i IntKind.u64 d.2.2.2.1]], some [Sg.a (Sz.l 8) [Col.i IntKind.u64 d.2.2.2.2.1]], some [Sg.a (Sz.l 8) [Col.i IntKind.u64 d.2.2.2.2.2]]] [])) := by kernel_rfl
theorem it_astrolaberef1_minus_0 {ρ : Type} (x0 : Int) (x1 : Int) (x2 : Nat → Int) (x3 : Nat → Int) (x4 : Nat → Int) (K : AX → St → Option ρ) :
    iter (fun t => t.head 0 ⟨[⟨3, [0, 1, 7, 8, 9, 10, 11, 12, 13, 14, 15, 16, 17, 18, 19, 20, 21, 22, 23, 24, 25, 26, 27], []⟩], [⟨3, 0, @R_astrolaberef1_minus_0 (@L_astrolaberef1_minus_0)⟩], [], [], (some ⟨0, [0, 1, 2, 3, 5, 6, 7, 8, 9, 10, 11, 12, 13, 14, 15, 16, 17, 18, 19, 20, 21, 22, 23, 24, 25, 26, 27], []⟩)⟩ (loopIn Try.prog 62 3)) (runC Try.prog (envOf []) ⟨[⟨3, [0, 1, 7, 8, 9, 10, 11, 12, 13, 14, 15, 16, 17, 18, 19, 20, 21, 22, 23, 24, 25, 26, 27], []⟩], [⟨3, 0, @R_astrolaberef1_minus_0 (@L_astrolaberef1_minus_0)⟩], [], [], (some ⟨0, [0, 1, 2, 3, 5, 6, 7, 8, 9, 10, 11, 12, 13, 14, 15, 16, 17, 18, 19, 20, 21, 22, 23, 24, 25, 26, 27], []⟩)⟩ (tmpsOf Try.prog 62) 0 300 (loopIn Try.prog 62 3)) K 300
      (St.mk
    [AV.und, AV.und, AV.r (RV.c (CV.ptr 0 (Off.k 0) 8)), AV.r (RV.c (CV.ptr 1 (Off.k 0) 8)), AV.r (RV.c (CV.ptr 2 (Off.k 0) 8)), AV.r (RV.c (CV.f (FV.i IntKind.u64 x0))),
      AV.r (RV.c (CV.f (FV.i IntKind.i64 x1))), AV.und, AV.und, AV.und, AV.und, AV.und, AV.und, AV.und, AV.und, AV.und, AV.und, AV.und, AV.und, AV.und, AV.und, AV.und, AV.und, AV.und, AV.und, AV.und,
      AV.und, AV.und]
    [some [Sg.a (Sz.l 8) [Col.i IntKind.u64 x2]], some [Sg.a (Sz.l 8) [Col.i IntKind.u64 x3]], some [Sg.a (Sz.l 8) [Col.i IntKind.u64 x4]]] []) = L_astrolaberef1_minus_0 (x0, x1, x2, x3, x4) (fun d => K (AX.ex 0) (St.mk
  [AV.und, AV.und, AV.r (RV.c (CV.ptr 0 (Off.k 0) 8)), AV.r (RV.c (CV.ptr 1 (Off.k 0) 8)), AV.r (RV.c (CV.ptr 2 (Off.k 0) 8)), AV.r (RV.c (CV.f (FV.i IntKind.u64 d.1))),
    AV.r (RV.c (CV.f (FV.i IntKind.i64 d.2.1))), AV.und, AV.r (RV.c (CV.f (FV.i IntKind.i64 d.2.1))), AV.r (RV.c (CV.f (FV.b d.2.2.1))), AV.und, AV.und, AV.und, AV.und, AV.und, AV.und,
    AV.und, AV.und, AV.und, AV.und, AV.und, AV.und, AV.und, AV.und, AV.und, AV.und, AV.und, AV.und]
  [some [Sg.a (Sz.l 8) [Col.i IntKind.u64 d.2.2.2.1]], some [Sg.a (Sz.l 8) [Col.i IntKind.u64 d.2.2.2.2.1]], some [Sg.a (Sz.l 8) [Col.i IntKind.u64 d.2.2.2.2.2]]] [])) :=
  iter_loopX (emb := fun (d : Int × Int × (Nat → Int) × (Nat → Int) × (Nat → Int)) => St.mk
  [AV.und, AV.und, AV.r (RV.c (CV.ptr 0 (Off.k 0) 8)), AV.r (RV.c (CV.ptr 1 (Off.k 0) 8)), AV.r (RV.c (CV.ptr 2 (Off.k 0) 8)), AV.r (RV.c (CV.f (FV.i IntKind.u64 d.1))),
    AV.r (RV.c (CV.f (FV.i IntKind.i64 d.2.1))), AV.und, AV.und, AV.und, AV.und, AV.und, AV.und, AV.und, AV.und, AV.und, AV.und, AV.und, AV.und, AV.und, AV.und, AV.und, AV.und, AV.und, AV.und,
    AV.und, AV.und, AV.und]
  [some [Sg.a (Sz.l 8) [Col.i IntKind.u64 d.2.2.1]], some [Sg.a (Sz.l 8) [Col.i IntKind.u64 d.2.2.2.1]], some [Sg.a (Sz.l 8) [Col.i IntKind.u64 d.2.2.2.2]]] []) (step := fun d c x => S_astrolaberef1_minus_0   d.1 d.2.1 d.2.2.1 d.2.2.2.1 d.2.2.2.2 c x) (kx := (fun d => K (AX.ex 0) (St.mk
  [AV.und, AV.und, AV.r (RV.c (CV.ptr 0 (Off.k 0) 8)), AV.r (RV.c (CV.ptr 1 (Off.k 0) 8)), AV.r (RV.c (CV.ptr 2 (Off.k 0) 8)), AV.r (RV.c (CV.f (FV.i IntKind.u64 d.1))),
    AV.r (RV.c (CV.f (FV.i IntKind.i64 d.2.1))), AV.und, AV.r (RV.c (CV.f (FV.i IntKind.i64 d.2.1))), AV.r (RV.c (CV.f (FV.b d.2.2.1))), AV.und, AV.und, AV.und, AV.und, AV.und, AV.und,
    AV.und, AV.und, AV.und, AV.und, AV.und, AV.und, AV.und, AV.und, AV.und, AV.und, AV.und, AV.und]
  [some [Sg.a (Sz.l 8) [Col.i IntKind.u64 d.2.2.2.1]], some [Sg.a (Sz.l 8) [Col.i IntKind.u64 d.2.2.2.2.1]], some [Sg.a (Sz.l 8) [Col.i IntKind.u64 d.2.2.2.2.2]]] [])))
    (fun d c => ds_astrolaberef1_minus_0  (@L_astrolaberef1_minus_0) d.1 d.2.1 d.2.2.1 d.2.2.2.1 d.2.2.2.2 c K) 300 (x0, x1, x2, x3, x4)
theorem so_astrolaberef1_minus_0 : ∀ kk, SumOK Try.prog (envOf []) ⟨[⟨3, [0, 1, 7, 8, 9, 10, 11, 12, 13, 14, 15, 16, 17, 18, 19, 20, 21, 22, 23, 24, 25, 26, 27], []⟩], [⟨3, 0, @R_astrolaberef1_minus_0 (@L_astrolaberef1_minus_0)⟩], [], [], (some ⟨0, [0, 1, 2, 3, 5, 6, 7, 8, 9, 10, 11, 12, 13, 14, 15, 16, 17, 18, 19, 20, 21, 22, 23, 24, 25, 26, 27], []⟩)⟩ (tmpsOf Try.prog 62) kk 300 (loopIn Try.prog 62 3) :=
  SumOK.of (id := 3) (k0 := 0) (run := @R_astrolaberef1_minus_0 (@L_astrolaberef1_minus_0)) (by kernel_rfl) fun s K r hr => by
    unfold R_astrolaberef1_minus_0 at hr
    obtain ⟨b, hb, hr1⟩ := Option.bind_eq_some_iff.1 hr
    have e := ((Q_astrolaberef1_minus_0).ok s b hb).trans (q_astrolaberef1_minus_0 b)
    subst e
    exact ⟨300, (it_astrolaberef1_minus_0 b.1.2.2.2.2.2.1 b.1.2.2.2.2.2.2.1 b.2.1.1.1.2.1 b.2.1.2.1.1.2.1 b.2.1.2.2.1.1.2.1 K).trans hr1⟩
def K_astrolaberef1_minus {ρ : Type}  (l_0 : ∀ {ρ : Type}, (Int × Int × (Nat → Int) × (Nat → Int) × (Nat → Int)) → ((Int × Int × Bool × (Nat → Int) × (Nat → Int) × (Nat → Int)) → Option ρ) → Option ρ) (x0 : Nat → Int) (x1 : Nat → Int) (k : (Nat → Int) → Option ρ) : Option ρ :=
  l_0 (0, 0, x0, x1, fun (x : Nat) => 0) fun (d : Int × Int × Bool × (Nat → Int) × (Nat → Int) × (Nat → Int)) => k d.2.2.2.1
def f_astrolaberef1_minus (x0 : Nat → Int) (x1 : Nat → Int) : Option (Nat → Int) := K_astrolaberef1_minus  (@L_astrolaberef1_minus_0) x0 x1 some
section
open Go.Ab.Rdr
def QA_astrolaberef1_minus := ((pair (cons (ar (ra (cons (ga (szl (nat 8)) (cons (ki .u64 hole) nil)) nil))) (cons (ar (ra (cons (ga (szl (nat 8)) (cons (ki .u64 hole) nil)) nil))) nil)) nil) : Rdr (List AV × List Blk) _)
end
def F_astrolaberef1_minus (f : (Nat → Int) → (Nat → Int) → Option (Nat → Int)) : Sem1 := fun args h => match (QA_astrolaberef1_minus).rd (args, h) with
  | some b => .opt (f b.1.1.1.2.1 b.1.2.1.1.2.1) fun (d : Nat → Int) => .leaf (Res.mk (AV.r (RV.agg [Sg.a (Sz.l 8) [Col.i IntKind.u64 d]])) [] [])
  | none => .fail
theorem d_astrolaberef1_minus  (l_0 : ∀ {ρ : Type}, (Int × Int × (Nat → Int) × (Nat → Int) × (Nat → Int)) → ((Int × Int × Bool × (Nat → Int) × (Nat → Int) × (Nat → Int)) → Option ρ) → Option ρ) (x0 : Nat → Int) (x1 : Nat → Int) : den Try.prog (envOf []) ⟨[⟨3, [0, 1, 7, 8, 9, 10, 11, 12, 13, 14, 15, 16, 17, 18, 19, 20, 21, 22, 23, 24, 25, 26, 27], []⟩], [⟨3, 0, @R_astrolaberef1_minus_0 (@l_0)⟩], [], [], (some ⟨0, [0, 1, 2, 3, 5, 6, 7, 8, 9, 10, 11, 12, 13, 14, 15, 16, 17, 18, 19, 20, 21, 22, 23, 24, 25, 26, 27], []⟩)⟩ 300 62 [.r (.agg [.a (.l 8) [.i .u64 x0]]), .r (.agg [.a (.l 8) [.i .u64 x1]])] [] =
    K_astrolaberef1_minus  (@l_0) x0 x1 (fun (d : Nat → Int) => some (Res.mk (AV.r (RV.agg [Sg.a (Sz.l 8) [Col.i IntKind.u64 d]])) [] [])) := by kernel_rfl
theorem m_astrolaberef1_minus {ρ σ : Type} (q : ρ → Option σ)  (l_0 : ∀ {ρ : Type}, (Int × Int × (Nat → Int) × (Nat → Int) × (Nat → Int)) → ((Int × Int × Bool × (Nat → Int) × (Nat → Int) × (Nat → Int)) → Option ρ) → Option ρ) (hl_0 : ∀ {ρ σ : Type} (q : ρ → Option σ) (d : Int × Int × (Nat → Int) × (Nat → Int) × (Nat → Int)) (k : (Int × Int × Bool × (Nat → Int) × (Nat → Int) × (Nat → Int)) → Option ρ), (l_0 d k).bind q = l_0 d fun x => (k x).bind q) (x0 : Nat → Int) (x1 : Nat → Int) (k : (Nat → Int) → Option ρ) : (K_astrolaberef1_minus  (@l_0) x0 x1 k).bind q = K_astrolaberef1_minus  (@l_0) x0 x1 (fun d => (k d).bind q) := by
  simp only [K_astrolaberef1_minus, bnd_cond, bnd_bind, bnd_none, bnd_sum, hl_0]
theorem qa_astrolaberef1_minus : ∀ b, (QA_astrolaberef1_minus).em b = ([.r (.agg [.a (.l 8) [.i .u64 b.1.1.1.2.1]]), .r (.agg [.a (.l 8) [.i .u64 b.1.2.1.1.2.1]])], []) := fun b => by kernel_rfl
theorem e_astrolaberef1_minus {f : (Nat → Int) → (Nat → Int) → Option (Nat → Int)} {args : List AV} {h : List Blk} {r : Res} (hr : (F_astrolaberef1_minus f args h).eval = some r) : ∃ x0 x1, args = [.r (.agg [.a (.l 8) [.i .u64 x0]]), .r (.agg [.a (.l 8) [.i .u64 x1]])] ∧ h = [] ∧ (f x0 x1).bind (fun (d : Nat → Int) => some (Res.mk (AV.r (RV.agg [Sg.a (Sz.l 8) [Col.i IntKind.u64 d]])) [] [])) = some r := by
  unfold F_astrolaberef1_minus at hr
  split at hr
  · rename_i b hb
    have e := ((QA_astrolaberef1_minus).ok _ _ hb).trans (qa_astrolaberef1_minus b)
    rw [opt_eval2] at hr
    exact ⟨b.1.1.1.2.1, b.1.2.1.1.2.1, (Prod.mk.inj e).1, (Prod.mk.inj e).2, hr⟩
  · cases hr
theorem n_astrolaberef1_minus {σ : Type} (q : (Nat → Int) → Option σ) (x0 : Nat → Int) (x1 : Nat → Int) : (f_astrolaberef1_minus x0 x1).bind q = K_astrolaberef1_minus  (@L_astrolaberef1_minus_0) x0 x1 q := by
  unfold f_astrolaberef1_minus
  exact m_astrolaberef1_minus q  (@L_astrolaberef1_minus_0) (fun q d k => mL_astrolaberef1_minus_0 q d k) x0 x1 some
theorem s_astrolaberef1_minus : Sound Try.prog 62 (F_astrolaberef1_minus f_astrolaberef1_minus) :=
  (inl_sums (l := []) (.nil _) mixed (hs := ⟨[⟨3, [0, 1, 7, 8, 9, 10, 11, 12, 13, 14, 15, 16, 17, 18, 19, 20, 21, 22, 23, 24, 25, 26, 27], []⟩], [⟨3, 0, @R_astrolaberef1_minus_0 (@L_astrolaberef1_minus_0)⟩], [], [], (some ⟨0, [0, 1, 2, 3, 5, 6, 7, 8, 9, 10, 11, 12, 13, 14, 15, 16, 17, 18, 19, 20, 21, 22, 23, 24, 25, 26, 27], []⟩)⟩) (lf := 300) (Sums.by (l := [loopIn Try.prog 62 3]) (lj := []) (by kernel_rfl) ⟨so_astrolaberef1_minus_0, trivial⟩ (by kernel_rfl) trivial) (by kernel_rfl)).by (F := F_astrolaberef1_minus f_astrolaberef1_minus) fun args b r hr => by
  obtain ⟨x0, x1, rfl, rfl, hr1⟩ := e_astrolaberef1_minus hr
  exact inl_eval ((d_astrolaberef1_minus  (@L_astrolaberef1_minus_0) x0 x1).trans ((n_astrolaberef1_minus (fun (d : Nat → Int) => some (Res.mk (AV.r (RV.agg [Sg.a (Sz.l 8) [Col.i IntKind.u64 d]])) [] [])) x0 x1).symm.trans hr1))

def K_astrolaberef1_Add {ρ : Type} (g_astrolaberef1_plus : (Nat → Int) → (Nat → Int) → Option (Nat → Int)) (g_astrolaberef1_made : Bool → (Nat → Int) → Option (Bool × (Nat → Int))) (g_astrolaberef1_less : (Nat → Int) → (Nat → Int) → Option Bool) (g_astrolaberef1_minus : (Nat → Int) → (Nat → Int) → Option (Nat → Int))  (x0 : Bool) (x1 : Nat → Int) (x2 : Bool) (x3 : Nat → Int) (k : (Bool × (Nat → Int)) → Option ρ) : Option ρ :=
  bif x0 == x2 then Option.bind (g_astrolaberef1_plus x1 x3) fun (d : Nat → Int) => Option.bind (g_astrolaberef1_made x0 d) fun (d : Bool × (Nat → Int)) => k (d.1, d.2)
  else
    Option.bind (g_astrolaberef1_less x1 x3) fun (d : Bool) =>
      bif d then Option.bind (g_astrolaberef1_minus x3 x1) fun (d : Nat → Int) => Option.bind (g_astrolaberef1_made x2 d) fun (d : Bool × (Nat → Int)) => k (d.1, d.2)
      else Option.bind (g_astrolaberef1_minus x1 x3) fun (d : Nat → Int) => Option.bind (g_astrolaberef1_made x0 d) fun (d : Bool × (Nat → Int)) => k (d.1, d.2)
def f_astrolaberef1_Add (x0 : Bool) (x1 : Nat → Int) (x2 : Bool) (x3 : Nat → Int) : Option (Bool × (Nat → Int)) := K_astrolaberef1_Add f_astrolaberef1_plus f_astrolaberef1_made f_astrolaberef1_less f_astrolaberef1_minus  x0 x1 x2 x3 some
section
open Go.Ab.Rdr
def QA_astrolaberef1_Add := ((pair (cons (ar (ra (cons (gc (cf (fb hole))) (cons (ga (szl (nat 8)) (cons (ki .u64 hole) nil)) nil)))) (cons (ar (ra (cons (gc (cf (fb hole))) (cons (ga (szl (nat 8)) (cons (ki .u64 hole) nil)) nil)))) nil)) nil) : Rdr (List AV × List Blk) _)
end
def F_astrolaberef1_Add (f : (Bool) → (Nat → Int) → (Bool) → (Nat → Int) → Option (Bool × (Nat → Int))) : Sem1 := fun args h => match (QA_astrolaberef1_Add).rd (args, h) with
  | some b => .opt (f b.1.1.1 b.1.1.2.1.2.1 b.1.2.1.1 b.1.2.1.2.1.2.1) fun (d : Bool × (Nat → Int)) => .leaf (Res.mk (AV.r (RV.agg [Sg.c (CV.f (FV.b d.1)), Sg.a (Sz.l 8) [Col.i IntKind.u64 d.2]])) [] [])
  | none => .fail
theorem d_astrolaberef1_Add (g_astrolaberef1_plus : (Nat → Int) → (Nat → Int) → Option (Nat → Int)) (g_astrolaberef1_made : Bool → (Nat → Int) → Option (Bool × (Nat → Int))) (g_astrolaberef1_less : (Nat → Int) → (Nat → Int) → Option Bool) (g_astrolaberef1_minus : (Nat → Int) → (Nat → Int) → Option (Nat → Int))  (x0 : Bool) (x1 : Nat → Int) (x2 : Bool) (x3 : Nat → Int) : den Try.prog (envOf [(60, F_astrolaberef1_plus g_astrolaberef1_plus), (58, F_astrolaberef1_made g_astrolaberef1_made), (61, F_astrolaberef1_less g_astrolaberef1_less), (62, F_astrolaberef1_minus g_astrolaberef1_minus)]) ⟨[], [], [], [], none⟩ 300 25 [.r (.agg [.c (.f (.b x0)), .a (.l 8) [.i .u64 x1]]), .r (.agg [.c (.f (.b x2)), .a (.l 8) [.i .u64 x3]])] [] =
    K_astrolaberef1_Add g_astrolaberef1_plus g_astrolaberef1_made g_astrolaberef1_less g_astrolaberef1_minus  x0 x1 x2 x3 (fun (d : Bool × (Nat → Int)) => some (Res.mk (AV.r (RV.agg [Sg.c (CV.f (FV.b d.1)), Sg.a (Sz.l 8) [Col.i IntKind.u64 d.2]])) [] [])) := by kernel_rfl
theorem m_astrolaberef1_Add {ρ σ : Type} (q : ρ → Option σ) (g_astrolaberef1_plus : (Nat → Int) → (Nat → Int) → Option (Nat → Int)) (g_astrolaberef1_made : Bool → (Nat → Int) → Option (Bool × (Nat → Int))) (g_astrolaberef1_less : (Nat → Int) → (Nat → Int) → Option Bool) (g_astrolaberef1_minus : (Nat → Int) → (Nat → Int) → Option (Nat → Int))   (x0 : Bool) (x1 : Nat → Int) (x2 : Bool) (x3 : Nat → Int) (k : (Bool × (Nat → Int)) → Option ρ) : (K_astrolaberef1_Add g_astrolaberef1_plus g_astrolaberef1_made g_astrolaberef1_less g_astrolaberef1_minus  x0 x1 x2 x3 k).bind q = K_astrolaberef1_Add g_astrolaberef1_plus g_astrolaberef1_made g_astrolaberef1_less g_astrolaberef1_minus  x0 x1 x2 x3 (fun d => (k d).bind q) := by
  simp only [K_astrolaberef1_Add, bnd_cond, bnd_bind, bnd_none, bnd_sum]
theorem qa_astrolaberef1_Add : ∀ b, (QA_astrolaberef1_Add).em b = ([.r (.agg [.c (.f (.b b.1.1.1)), .a (.l 8) [.i .u64 b.1.1.2.1.2.1]]), .r (.agg [.c (.f (.b b.1.2.1.1)), .a (.l 8) [.i .u64 b.1.2.1.2.1.2.1]])], []) := fun b => by kernel_rfl
theorem e_astrolaberef1_Add {f : (Bool) → (Nat → Int) → (Bool) → (Nat → Int) → Option (Bool × (Nat → Int))} {args : List AV} {h : List Blk} {r : Res} (hr : (F_astrolaberef1_Add f args h).eval = some r) : ∃ x0 x1 x2 x3, args = [.r (.agg [.c (.f (.b x0)), .a (.l 8) [.i .u64 x1]]), .r (.agg [.c (.f (.b x2)), .a (.l 8) [.i .u64 x3]])] ∧ h = [] ∧ (f x0 x1 x2 x3).bind (fun (d : Bool × (Nat → Int)) => some (Res.mk (AV.r (RV.agg [Sg.c (CV.f (FV.b d.1)), Sg.a (Sz.l 8) [Col.i IntKind.u64 d.2]])) [] [])) = some r := by
  unfold F_astrolaberef1_Add at hr
  split at hr
  · rename_i b hb
    have e := ((QA_astrolaberef1_Add).ok _ _ hb).trans (qa_astrolaberef1_Add b)
    rw [opt_eval2] at hr
    exact ⟨b.1.1.1, b.1.1.2.1.2.1, b.1.2.1.1, b.1.2.1.2.1.2.1, (Prod.mk.inj e).1, (Prod.mk.inj e).2, hr⟩
  · cases hr
theorem n_astrolaberef1_Add {σ : Type} (q : (Bool × (Nat → Int)) → Option σ) (x0 : Bool) (x1 : Nat → Int) (x2 : Bool) (x3 : Nat → Int) : (f_astrolaberef1_Add x0 x1 x2 x3).bind q = K_astrolaberef1_Add f_astrolaberef1_plus f_astrolaberef1_made f_astrolaberef1_less f_astrolaberef1_minus  x0 x1 x2 x3 q := by
  unfold f_astrolaberef1_Add
  exact m_astrolaberef1_Add q f_astrolaberef1_plus f_astrolaberef1_made f_astrolaberef1_less f_astrolaberef1_minus   x0 x1 x2 x3 some
theorem s_astrolaberef1_Add : Sound Try.prog 25 (F_astrolaberef1_Add f_astrolaberef1_Add) :=
  (inl_sound (l := [(60, F_astrolaberef1_plus f_astrolaberef1_plus), (58, F_astrolaberef1_made f_astrolaberef1_made), (61, F_astrolaberef1_less f_astrolaberef1_less), (62, F_astrolaberef1_minus f_astrolaberef1_minus)]) (.cons s_astrolaberef1_plus (.cons s_astrolaberef1_made (.cons s_astrolaberef1_less (.cons s_astrolaberef1_minus (.nil _))))) mixed [] [] 300 (by kernel_rfl)).by (F := F_astrolaberef1_Add f_astrolaberef1_Add) fun args b r hr => by
  obtain ⟨x0, x1, x2, x3, rfl, rfl, hr1⟩ := e_astrolaberef1_Add hr
  exact inl_eval ((d_astrolaberef1_Add f_astrolaberef1_plus f_astrolaberef1_made f_astrolaberef1_less f_astrolaberef1_minus  x0 x1 x2 x3).trans ((n_astrolaberef1_Add (fun (d : Bool × (Nat → Int)) => some (Res.mk (AV.r (RV.agg [Sg.c (CV.f (FV.b d.1)), Sg.a (Sz.l 8) [Col.i IntKind.u64 d.2]])) [] [])) x0 x1 x2 x3).symm.trans hr1))

def K_astrolaberef1_Wide {ρ : Type} (g_astrolaberef1_Of : Int → Option (Bool × (Nat → Int))) (g_astrolaberef1_made : Bool → (Nat → Int) → Option (Bool × (Nat → Int))) (g_astrolaberef1_Add : Bool → (Nat → Int) → Bool → (Nat → Int) → Option (Bool × (Nat → Int)))  (x0 : Int) (x1 : Int) (k : (Bool × (Nat → Int)) → Option ρ) : Option ρ :=
  Option.bind (g_astrolaberef1_Of x0) fun (d : Bool × (Nat → Int)) =>
    Option.bind (g_astrolaberef1_made d.1 fun (j : Nat) => bif Nat.beq j 3 then d.2 1 else bif Nat.beq j 2 then d.2 0 else 0) fun (d : Bool × (Nat → Int)) =>
      Option.bind
        (g_astrolaberef1_made false fun (j : Nat) =>
          bif Nat.beq j 1 then Int.fdiv x1 4294967296 else bif Nat.beq j 0 then IntKind.wrap IntKind.u64 (Int.ofNat (BitVec.toNat (BitVec.ofInt 64 x1 &&& BitVec.ofInt 64 4294967295))) else 0)
        fun (d_1 : Bool × (Nat → Int)) => Option.bind (g_astrolaberef1_Add d.1 d.2 d_1.1 d_1.2) fun (d : Bool × (Nat → Int)) => k (d.1, d.2)
def f_astrolaberef1_Wide (x0 : Int) (x1 : Int) : Option (Bool × (Nat → Int)) := K_astrolaberef1_Wide f_astrolaberef1_Of f_astrolaberef1_made f_astrolaberef1_Add  x0 x1 some
section
open Go.Ab.Rdr
def QA_astrolaberef1_Wide := ((pair (cons (ar (rc (cf (fi .i64 hole)))) (cons (ar (rc (cf (fi .u64 hole)))) nil)) nil) : Rdr (List AV × List Blk) _)
end
def F_astrolaberef1_Wide (f : (Int) → (Int) → Option (Bool × (Nat → Int))) : Sem1 := fun args h => match (QA_astrolaberef1_Wide).rd (args, h) with
  | some b => .opt (f b.1.1 b.1.2.1) fun (d : Bool × (Nat → Int)) => .leaf (Res.mk (AV.r (RV.agg [Sg.c (CV.f (FV.b d.1)), Sg.a (Sz.l 8) [Col.i IntKind.u64 d.2]])) [] [])
  | none => .fail
theorem d_astrolaberef1_Wide (g_astrolaberef1_Of : Int → Option (Bool × (Nat → Int))) (g_astrolaberef1_made : Bool → (Nat → Int) → Option (Bool × (Nat → Int))) (g_astrolaberef1_Add : Bool → (Nat → Int) → Bool → (Nat → Int) → Option (Bool × (Nat → Int)))  (x0 : Int) (x1 : Int) : den Try.prog (envOf [(22, F_astrolaberef1_Of g_astrolaberef1_Of), (58, F_astrolaberef1_made g_astrolaberef1_made), (25, F_astrolaberef1_Add g_astrolaberef1_Add)]) ⟨[], [], [], [], none⟩ 300 63 [.r (.c (.f (.i .i64 x0))), .r (.c (.f (.i .u64 x1)))] [] =
    K_astrolaberef1_Wide g_astrolaberef1_Of g_astrolaberef1_made g_astrolaberef1_Add  x0 x1 (fun (d : Bool × (Nat → Int)) => some (Res.mk (AV.r (RV.agg [Sg.c (CV.f (FV.b d.1)), Sg.a (Sz.l 8) [Col.i IntKind.u64 d.2]])) [] [])) := by kernel_rfl
theorem m_astrolaberef1_Wide {ρ σ : Type} (q : ρ → Option σ) (g_astrolaberef1_Of : Int → Option (Bool × (Nat → Int))) (g_astrolaberef1_made : Bool → (Nat → Int) → Option (Bool × (Nat → Int))) (g_astrolaberef1_Add : Bool → (Nat → Int) → Bool → (Nat → Int) → Option (Bool × (Nat → Int)))   (x0 : Int) (x1 : Int) (k : (Bool × (Nat → Int)) → Option ρ) : (K_astrolaberef1_Wide g_astrolaberef1_Of g_astrolaberef1_made g_astrolaberef1_Add  x0 x1 k).bind q = K_astrolaberef1_Wide g_astrolaberef1_Of g_astrolaberef1_made g_astrolaberef1_Add  x0 x1 (fun d => (k d).bind q) := by
  simp only [K_astrolaberef1_Wide, bnd_cond, bnd_bind, bnd_none, bnd_sum]
theorem qa_astrolaberef1_Wide : ∀ b, (QA_astrolaberef1_Wide).em b = ([.r (.c (.f (.i .i64 b.1.1))), .r (.c (.f (.i .u64 b.1.2.1)))], []) := fun b => by kernel_rfl
theorem e_astrolaberef1_Wide {f : (Int) → (Int) → Option (Bool × (Nat → Int))} {args : List AV} {h : List Blk} {r : Res} (hr : (F_astrolaberef1_Wide f args h).eval = some r) : ∃ x0 x1, args = [.r (.c (.f (.i .i64 x0))), .r (.c (.f (.i .u64 x1)))] ∧ h = [] ∧ (f x0 x1).bind (fun (d : Bool × (Nat → Int)) => some (Res.mk (AV.r (RV.agg [Sg.c (CV.f (FV.b d.1)), Sg.a (Sz.l 8) [Col.i IntKind.u64 d.2]])) [] [])) = some r := by
  unfold F_astrolaberef1_Wide at hr
  split at hr
  · rename_i b hb
    have e := ((QA_astrolaberef1_Wide).ok _ _ hb).trans (qa_astrolaberef1_Wide b)
    rw [opt_eval2] at hr
    exact ⟨b.1.1, b.1.2.1, (Prod.mk.inj e).1, (Prod.mk.inj e).2, hr⟩
  · cases hr
theorem n_astrolaberef1_Wide {σ : Type} (q : (Bool × (Nat → Int)) → Option σ) (x0 : Int) (x1 : Int) : (f_astrolaberef1_Wide x0 x1).bind q = K_astrolaberef1_Wide f_astrolaberef1_Of f_astrolaberef1_made f_astrolaberef1_Add  x0 x1 q := by
  unfold f_astrolaberef1_Wide
  exact m_astrolaberef1_Wide q f_astrolaberef1_Of f_astrolaberef1_made f_astrolaberef1_Add   x0 x1 some
theorem s_astrolaberef1_Wide : Sound Try.prog 63 (F_astrolaberef1_Wide f_astrolaberef1_Wide) :=
  (inl_sound (l := [(22, F_astrolaberef1_Of f_astrolaberef1_Of), (58, F_astrolaberef1_made f_astrolaberef1_made), (25, F_astrolaberef1_Add f_astrolaberef1_Add)]) (.cons s_astrolaberef1_Of (.cons s_astrolaberef1_made (.cons s_astrolaberef1_Add (.nil _)))) mixed [] [] 300 (by kernel_rfl)).by (F := F_astrolaberef1_Wide f_astrolaberef1_Wide) fun args b r hr => by
  obtain ⟨x0, x1, rfl, rfl, hr1⟩ := e_astrolaberef1_Wide hr
  exact inl_eval ((d_astrolaberef1_Wide f_astrolaberef1_Of f_astrolaberef1_made f_astrolaberef1_Add  x0 x1).trans ((n_astrolaberef1_Wide (fun (d : Bool × (Nat → Int)) => some (Res.mk (AV.r (RV.agg [Sg.c (CV.f (FV.b d.1)), Sg.a (Sz.l 8) [Col.i IntKind.u64 d.2]])) [] [])) x0 x1).symm.trans hr1))

def K_astrolaberef1_Neg {ρ : Type} (g_astrolaberef1_made : Bool → (Nat → Int) → Option (Bool × (Nat → Int)))  (x0 : Bool) (x1 : Nat → Int) (k : (Bool × (Nat → Int)) → Option ρ) : Option ρ :=
  Option.bind (g_astrolaberef1_made (!x0) x1) fun (d : Bool × (Nat → Int)) => k (d.1, d.2)
def f_astrolaberef1_Neg (x0 : Bool) (x1 : Nat → Int) : Option (Bool × (Nat → Int)) := K_astrolaberef1_Neg f_astrolaberef1_made  x0 x1 some
section
open Go.Ab.Rdr
def QA_astrolaberef1_Neg := ((pair (cons (ar (ra (cons (gc (cf (fb hole))) (cons (ga (szl (nat 8)) (cons (ki .u64 hole) nil)) nil)))) nil) nil) : Rdr (List AV × List Blk) _)
end
def F_astrolaberef1_Neg (f : (Bool) → (Nat → Int) → Option (Bool × (Nat → Int))) : Sem1 := fun args h => match (QA_astrolaberef1_Neg).rd (args, h) with
  | some b => .opt (f b.1.1.1 b.1.1.2.1.2.1) fun (d : Bool × (Nat → Int)) => .leaf (Res.mk (AV.r (RV.agg [Sg.c (CV.f (FV.b d.1)), Sg.a (Sz.l 8) [Col.i IntKind.u64 d.2]])) [] [])
  | none => .fail
theorem d_astrolaberef1_Neg (g_astrolaberef1_made : Bool → (Nat → Int) → Option (Bool × (Nat → Int)))  (x0 : Bool) (x1 : Nat → Int) : den Try.prog (envOf [(58, F_astrolaberef1_made g_astrolaberef1_made)]) ⟨[], [], [], [], none⟩ 300 28 [.r (.agg [.c (.f (.b x0)), .a (.l 8) [.i .u64 x1]])] [] =
    K_astrolaberef1_Neg g_astrolaberef1_made  x0 x1 (fun (d : Bool × (Nat → Int)) => some (Res.mk (AV.r (RV.agg [Sg.c (CV.f (FV.b d.1)), Sg.a (Sz.l 8) [Col.i IntKind.u64 d.2]])) [] [])) := by kernel_rfl
theorem m_astrolaberef1_Neg {ρ σ : Type} (q : ρ → Option σ) (g_astrolaberef1_made : Bool → (Nat → Int) → Option (Bool × (Nat → Int)))   (x0 : Bool) (x1 : Nat → Int) (k : (Bool × (Nat → Int)) → Option ρ) : (K_astrolaberef1_Neg g_astrolaberef1_made  x0 x1 k).bind q = K_astrolaberef1_Neg g_astrolaberef1_made  x0 x1 (fun d => (k d).bind q) := by
  simp only [K_astrolaberef1_Neg, bnd_cond, bnd_bind, bnd_none, bnd_sum]
theorem qa_astrolaberef1_Neg : ∀ b, (QA_astrolaberef1_Neg).em b = ([.r (.agg [.c (.f (.b b.1.1.1)), .a (.l 8) [.i .u64 b.1.1.2.1.2.1]])], []) := fun b => by kernel_rfl
theorem e_astrolaberef1_Neg {f : (Bool) → (Nat → Int) → Option (Bool × (Nat → Int))} {args : List AV} {h : List Blk} {r : Res} (hr : (F_astrolaberef1_Neg f args h).eval = some r) : ∃ x0 x1, args = [.r (.agg [.c (.f (.b x0)), .a (.l 8) [.i .u64 x1]])] ∧ h = [] ∧ (f x0 x1).bind (fun (d : Bool × (Nat → Int)) => some (Res.mk (AV.r (RV.agg [Sg.c (CV.f (FV.b d.1)), Sg.a (Sz.l 8) [Col.i IntKind.u64 d.2]])) [] [])) = some r := by
  unfold F_astrolaberef1_Neg at hr
  split at hr
  · rename_i b hb
    have e := ((QA_astrolaberef1_Neg).ok _ _ hb).trans (qa_astrolaberef1_Neg b)
    rw [opt_eval2] at hr
    exact ⟨b.1.1.1, b.1.1.2.1.2.1, (Prod.mk.inj e).1, (Prod.mk.inj e).2, hr⟩
  · cases hr
theorem n_astrolaberef1_Neg {σ : Type} (q : (Bool × (Nat → Int)) → Option σ) (x0 : Bool) (x1 : Nat → Int) : (f_astrolaberef1_Neg x0 x1).bind q = K_astrolaberef1_Neg f_astrolaberef1_made  x0 x1 q := by
  unfold f_astrolaberef1_Neg
  exact m_astrolaberef1_Neg q f_astrolaberef1_made   x0 x1 some
theorem s_astrolaberef1_Neg : Sound Try.prog 28 (F_astrolaberef1_Neg f_astrolaberef1_Neg) :=
  (inl_sound (l := [(58, F_astrolaberef1_made f_astrolaberef1_made)]) (.cons s_astrolaberef1_made (.nil _)) mixed [] [] 300 (by kernel_rfl)).by (F := F_astrolaberef1_Neg f_astrolaberef1_Neg) fun args b r hr => by
  obtain ⟨x0, x1, rfl, rfl, hr1⟩ := e_astrolaberef1_Neg hr
  exact inl_eval ((d_astrolaberef1_Neg f_astrolaberef1_made  x0 x1).trans ((n_astrolaberef1_Neg (fun (d : Bool × (Nat → Int)) => some (Res.mk (AV.r (RV.agg [Sg.c (CV.f (FV.b d.1)), Sg.a (Sz.l 8) [Col.i IntKind.u64 d.2]])) [] [])) x0 x1).symm.trans hr1))

def K_astrolaberef1_Cmp {ρ : Type} (g_astrolaberef1_Neg : Bool → (Nat → Int) → Option (Bool × (Nat → Int))) (g_astrolaberef1_Add : Bool → (Nat → Int) → Bool → (Nat → Int) → Option (Bool × (Nat → Int))) (g_astrolaberef1_zero : (Nat → Int) → Option Bool)  (x0 : Bool) (x1 : Nat → Int) (x2 : Bool) (x3 : Nat → Int) (k : (Int) → Option ρ) : Option ρ :=
  Option.bind (g_astrolaberef1_Neg x2 x3) fun (d : Bool × (Nat → Int)) =>
    Option.bind (g_astrolaberef1_Add x0 x1 d.1 d.2) fun (d : Bool × (Nat → Int)) => Option.bind (g_astrolaberef1_zero d.2) fun (d_1 : Bool) => bif d_1 then k 0 else bif d.1 then k (-1) else k 1
def f_astrolaberef1_Cmp (x0 : Bool) (x1 : Nat → Int) (x2 : Bool) (x3 : Nat → Int) : Option (Int) := K_astrolaberef1_Cmp f_astrolaberef1_Neg f_astrolaberef1_Add f_astrolaberef1_zero  x0 x1 x2 x3 some
section
open Go.Ab.Rdr
def QA_astrolaberef1_Cmp := ((pair (cons (ar (ra (cons (gc (cf (fb hole))) (cons (ga (szl (nat 8)) (cons (ki .u64 hole) nil)) nil)))) (cons (ar (ra (cons (gc (cf (fb hole))) (cons (ga (szl (nat 8)) (cons (ki .u64 hole) nil)) nil)))) nil)) nil) : Rdr (List AV × List Blk) _)
end
def F_astrolaberef1_Cmp (f : (Bool) → (Nat → Int) → (Bool) → (Nat → Int) → Option (Int)) : Sem1 := fun args h => match (QA_astrolaberef1_Cmp).rd (args, h) with
  | some b => .opt (f b.1.1.1 b.1.1.2.1.2.1 b.1.2.1.1 b.1.2.1.2.1.2.1) fun (d : Int) => .leaf (Res.mk (AV.r (RV.c (CV.f (FV.i IntKind.i64 d)))) [] [])
  | none => .fail
theorem d_astrolaberef1_Cmp (g_astrolaberef1_Neg : Bool → (Nat → Int) → Option (Bool × (Nat → Int))) (g_astrolaberef1_Add : Bool → (Nat → Int) → Bool → (Nat → Int) → Option (Bool × (Nat → Int))) (g_astrolaberef1_zero : (Nat → Int) → Option Bool)  (x0 : Bool) (x1 : Nat → Int) (x2 : Bool) (x3 : Nat → Int) : den Try.prog (envOf [(28, F_astrolaberef1_Neg g_astrolaberef1_Neg), (25, F_astrolaberef1_Add g_astrolaberef1_Add), (64, F_astrolaberef1_zero g_astrolaberef1_zero)]) ⟨[], [], [], [], none⟩ 300 30 [.r (.agg [.c (.f (.b x0)), .a (.l 8) [.i .u64 x1]]), .r (.agg [.c (.f (.b x2)), .a (.l 8) [.i .u64 x3]])] [] =
    K_astrolaberef1_Cmp g_astrolaberef1_Neg g_astrolaberef1_Add g_astrolaberef1_zero  x0 x1 x2 x3 (fun (d : Int) => some (Res.mk (AV.r (RV.c (CV.f (FV.i IntKind.i64 d)))) [] [])) := by kernel_rfl
theorem m_astrolaberef1_Cmp {ρ σ : Type} (q : ρ → Option σ) (g_astrolaberef1_Neg : Bool → (Nat → Int) → Option (Bool × (Nat → Int))) (g_astrolaberef1_Add : Bool → (Nat → Int) → Bool → (Nat → Int) → Option (Bool × (Nat → Int))) (g_astrolaberef1_zero : (Nat → Int) → Option Bool)   (x0 : Bool) (x1 : Nat → Int) (x2 : Bool) (x3 : Nat → Int) (k : (Int) → Option ρ) : (K_astrolaberef1_Cmp g_astrolaberef1_Neg g_astrolaberef1_Add g_astrolaberef1_zero  x0 x1 x2 x3 k).bind q = K_astrolaberef1_Cmp g_astrolaberef1_Neg g_astrolaberef1_Add g_astrolaberef1_zero  x0 x1 x2 x3 (fun d => (k d).bind q) := by
  simp only [K_astrolaberef1_Cmp, bnd_cond, bnd_bind, bnd_none, bnd_sum]
theorem qa_astrolaberef1_Cmp : ∀ b, (QA_astrolaberef1_Cmp).em b = ([.r (.agg [.c (.f (.b b.1.1.1)), .a (.l 8) [.i .u64 b.1.1.2.1.2.1]]), .r (.agg [.c (.f (.b b.1.2.1.1)), .a (.l 8) [.i .u64 b.1.2.1.2.1.2.1]])], []) := fun b => by kernel_rfl
theorem e_astrolaberef1_Cmp {f : (Bool) → (Nat → Int) → (Bool) → (Nat → Int) → Option (Int)} {args : List AV} {h : List Blk} {r : Res} (hr : (F_astrolaberef1_Cmp f args h).eval = some r) : ∃ x0 x1 x2 x3, args = [.r (.agg [.c (.f (.b x0)), .a (.l 8) [.i .u64 x1]]), .r (.agg [.c (.f (.b x2)), .a (.l 8) [.i .u64 x3]])] ∧ h = [] ∧ (f x0 x1 x2 x3).bind (fun (d : Int) => some (Res.mk (AV.r (RV.c (CV.f (FV.i IntKind.i64 d)))) [] [])) = some r := by
  unfold F_astrolaberef1_Cmp at hr
  split at hr
  · rename_i b hb
    have e := ((QA_astrolaberef1_Cmp).ok _ _ hb).trans (qa_astrolaberef1_Cmp b)
    rw [opt_eval2] at hr
    exact ⟨b.1.1.1, b.1.1.2.1.2.1, b.1.2.1.1, b.1.2.1.2.1.2.1, (Prod.mk.inj e).1, (Prod.mk.inj e).2, hr⟩
  · cases hr
theorem n_astrolaberef1_Cmp {σ : Type} (q : (Int) → Option σ) (x0 : Bool) (x1 : Nat → Int) (x2 : Bool) (x3 : Nat → Int) : (f_astrolaberef1_Cmp x0 x1 x2 x3).bind q = K_astrolaberef1_Cmp f_astrolaberef1_Neg f_astrolaberef1_Add f_astrolaberef1_zero  x0 x1 x2 x3 q := by
  unfold f_astrolaberef1_Cmp
  exact m_astrolaberef1_Cmp q f_astrolaberef1_Neg f_astrolaberef1_Add f_astrolaberef1_zero   x0 x1 x2 x3 some
theorem s_astrolaberef1_Cmp : Sound Try.prog 30 (F_astrolaberef1_Cmp f_astrolaberef1_Cmp) :=
  (inl_sound (l := [(28, F_astrolaberef1_Neg f_astrolaberef1_Neg), (25, F_astrolaberef1_Add f_astrolaberef1_Add), (64, F_astrolaberef1_zero f_astrolaberef1_zero)]) (.cons s_astrolaberef1_Neg (.cons s_astrolaberef1_Add (.cons s_astrolaberef1_zero (.nil _)))) mixed [] [] 300 (by kernel_rfl)).by (F := F_astrolaberef1_Cmp f_astrolaberef1_Cmp) fun args b r hr => by
  obtain ⟨x0, x1, x2, x3, rfl, rfl, hr1⟩ := e_astrolaberef1_Cmp hr
  exact inl_eval ((d_astrolaberef1_Cmp f_astrolaberef1_Neg f_astrolaberef1_Add f_astrolaberef1_zero  x0 x1 x2 x3).trans ((n_astrolaberef1_Cmp (fun (d : Int) => some (Res.mk (AV.r (RV.c (CV.f (FV.i IntKind.i64 d)))) [] [])) x0 x1 x2 x3).symm.trans hr1))

def K_astrolaberef1_Pow {ρ : Type}   (x0 : Int) (k : (Nat → Int) → Option ρ) : Option ρ :=
  bif !decide (IntKind.wrap IntKind.u64 (Int.tmod x0 32) < 0) then
    bif inR (IntKind.wrap IntKind.i64 (Int.tdiv x0 32)) 8 then
      bif true && Nat.ble (0 + Int.toNat (IntKind.wrap IntKind.i64 (Int.tdiv x0 32)) * 1 + 1) 8 then
        k fun (j : Nat) =>
          bif Nat.beq j (Int.toNat (IntKind.wrap IntKind.i64 (Int.tdiv x0 32))) then IntKind.wrap IntKind.u64 (1 * 2 ^ min (Int.toNat (IntKind.wrap IntKind.u64 (Int.tmod x0 32))) 64) else 0
      else none
    else none
  else none
def f_astrolaberef1_Pow (x0 : Int) : Option (Nat → Int) := K_astrolaberef1_Pow   x0 some
section
open Go.Ab.Rdr
def QA_astrolaberef1_Pow := ((pair (cons (ar (rc (cf (fi .i64 hole)))) nil) nil) : Rdr (List AV × List Blk) _)
end
def F_astrolaberef1_Pow (f : (Int) → Option (Nat → Int)) : Sem1 := fun args h => match (QA_astrolaberef1_Pow).rd (args, h) with
  | some b => .opt (f b.1.1) fun (d : Nat → Int) => .leaf (Res.mk (AV.r (RV.agg [Sg.c (CV.f (FV.b false)), Sg.a (Sz.l 8) [Col.i IntKind.u64 d]])) [] [])
  | none => .fail
theorem d_astrolaberef1_Pow   (x0 : Int) : den Try.prog (envOf []) ⟨[], [], [], [], none⟩ 300 32 [.r (.c (.f (.i .i64 x0)))] [] =
    K_astrolaberef1_Pow   x0 (fun (d : Nat → Int) => some (Res.mk (AV.r (RV.agg [Sg.c (CV.f (FV.b false)), Sg.a (Sz.l 8) [Col.i IntKind.u64 d]])) [] [])) := by kernel_rfl
theorem m_astrolaberef1_Pow {ρ σ : Type} (q : ρ → Option σ)    (x0 : Int) (k : (Nat → Int) → Option ρ) : (K_astrolaberef1_Pow   x0 k).bind q = K_astrolaberef1_Pow   x0 (fun d => (k d).bind q) := by
  simp only [K_astrolaberef1_Pow, bnd_cond, bnd_bind, bnd_none, bnd_sum]
theorem qa_astrolaberef1_Pow : ∀ b, (QA_astrolaberef1_Pow).em b = ([.r (.c (.f (.i .i64 b.1.1)))], []) := fun b => by kernel_rfl
theorem e_astrolaberef1_Pow {f : (Int) → Option (Nat → Int)} {args : List AV} {h : List Blk} {r : Res} (hr : (F_astrolaberef1_Pow f args h).eval = some r) : ∃ x0, args = [.r (.c (.f (.i .i64 x0)))] ∧ h = [] ∧ (f x0).bind (fun (d : Nat → Int) => some (Res.mk (AV.r (RV.agg [Sg.c (CV.f (FV.b false)), Sg.a (Sz.l 8) [Col.i IntKind.u64 d]])) [] [])) = some r := by
  unfold F_astrolaberef1_Pow at hr
  split at hr
  · rename_i b hb
    have e := ((QA_astrolaberef1_Pow).ok _ _ hb).trans (qa_astrolaberef1_Pow b)
    rw [opt_eval2] at hr
    exact ⟨b.1.1, (Prod.mk.inj e).1, (Prod.mk.inj e).2, hr⟩
  · cases hr
theorem n_astrolaberef1_Pow {σ : Type} (q : (Nat → Int) → Option σ) (x0 : Int) : (f_astrolaberef1_Pow x0).bind q = K_astrolaberef1_Pow   x0 q := by
  unfold f_astrolaberef1_Pow
  exact m_astrolaberef1_Pow q    x0 some
theorem s_astrolaberef1_Pow : Sound Try.prog 32 (F_astrolaberef1_Pow f_astrolaberef1_Pow) :=
  (inl_sound (l := []) (.nil _) mixed [] [] 300 (by kernel_rfl)).by (F := F_astrolaberef1_Pow f_astrolaberef1_Pow) fun args b r hr => by
  obtain ⟨x0, rfl, rfl, hr1⟩ := e_astrolaberef1_Pow hr
  exact inl_eval ((d_astrolaberef1_Pow   x0).trans ((n_astrolaberef1_Pow (fun (d : Nat → Int) => some (Res.mk (AV.r (RV.agg [Sg.c (CV.f (FV.b false)), Sg.a (Sz.l 8) [Col.i IntKind.u64 d]])) [] [])) x0).symm.trans hr1))

def K_astrolaberef1_Fits {ρ : Type} (g_astrolaberef1_Pow : Int → Option (Nat → Int)) (g_astrolaberef1_less : (Nat → Int) → (Nat → Int) → Option Bool)  (x0 : Bool) (x1 : Nat → Int) (x2 : Int) (k : (Bool) → Option ρ) : Option ρ :=
  bif x0 then Option.bind (g_astrolaberef1_Pow x2) fun (d : Nat → Int) => Option.bind (g_astrolaberef1_less d x1) fun (d : Bool) => k !d
  else Option.bind (g_astrolaberef1_Pow x2) fun (d : Nat → Int) => Option.bind (g_astrolaberef1_less x1 d) fun (d : Bool) => k d
def f_astrolaberef1_Fits (x0 : Bool) (x1 : Nat → Int) (x2 : Int) : Option (Bool) := K_astrolaberef1_Fits f_astrolaberef1_Pow f_astrolaberef1_less  x0 x1 x2 some
section
open Go.Ab.Rdr
def QA_astrolaberef1_Fits := ((pair (cons (ar (ra (cons (gc (cf (fb hole))) (cons (ga (szl (nat 8)) (cons (ki .u64 hole) nil)) nil)))) (cons (ar (rc (cf (fi .i64 hole)))) nil)) nil) : Rdr (List AV × List Blk) _)
end
def F_astrolaberef1_Fits (f : (Bool) → (Nat → Int) → (Int) → Option (Bool)) : Sem1 := fun args h => match (QA_astrolaberef1_Fits).rd (args, h) with
  | some b => .opt (f b.1.1.1 b.1.1.2.1.2.1 b.1.2.1) fun (d : Bool) => .leaf (Res.mk (AV.r (RV.c (CV.f (FV.b d)))) [] [])
  | none => .fail
theorem d_astrolaberef1_Fits (g_astrolaberef1_Pow : Int → Option (Nat → Int)) (g_astrolaberef1_less : (Nat → Int) → (Nat → Int) → Option Bool)  (x0 : Bool) (x1 : Nat → Int) (x2 : Int) : den Try.prog (envOf [(32, F_astrolaberef1_Pow g_astrolaberef1_Pow), (61, F_astrolaberef1_less g_astrolaberef1_less)]) ⟨[], [], [], [], none⟩ 300 27 [.r (.agg [.c (.f (.b x0)), .a (.l 8) [.i .u64 x1]]), .r (.c (.f (.i .i64 x2)))] [] =
    K_astrolaberef1_Fits g_astrolaberef1_Pow g_astrolaberef1_less  x0 x1 x2 (fun (d : Bool) => some (Res.mk (AV.r (RV.c (CV.f (FV.b d)))) [] [])) := by kernel_rfl
theorem m_astrolaberef1_Fits {ρ σ : Type} (q : ρ → Option σ) (g_astrolaberef1_Pow : Int → Option (Nat → Int)) (g_astrolaberef1_less : (Nat → Int) → (Nat → Int) → Option Bool)   (x0 : Bool) (x1 : Nat → Int) (x2 : Int) (k : (Bool) → Option ρ) : (K_astrolaberef1_Fits g_astrolaberef1_Pow g_astrolaberef1_less  x0 x1 x2 k).bind q = K_astrolaberef1_Fits g_astrolaberef1_Pow g_astrolaberef1_less  x0 x1 x2 (fun d => (k d).bind q) := by
  simp only [K_astrolaberef1_Fits, bnd_cond, bnd_bind, bnd_none, bnd_sum]
theorem qa_astrolaberef1_Fits : ∀ b, (QA_astrolaberef1_Fits).em b = ([.r (.agg [.c (.f (.b b.1.1.1)), .a (.l 8) [.i .u64 b.1.1.2.1.2.1]]), .r (.c (.f (.i .i64 b.1.2.1)))], []) := fun b => by kernel_rfl
theorem e_astrolaberef1_Fits {f : (Bool) → (Nat → Int) → (Int) → Option (Bool)} {args : List AV} {h : List Blk} {r : Res} (hr : (F_astrolaberef1_Fits f args h).eval = some r) : ∃ x0 x1 x2, args = [.r (.agg [.c (.f (.b x0)), .a (.l 8) [.i .u64 x1]]), .r (.c (.f (.i .i64 x2)))] ∧ h = [] ∧ (f x0 x1 x2).bind (fun (d : Bool) => some (Res.mk (AV.r (RV.c (CV.f (FV.b d)))) [] [])) = some r := by
  unfold F_astrolaberef1_Fits at hr
  split at hr
  · rename_i b hb
    have e := ((QA_astrolaberef1_Fits).ok _ _ hb).trans (qa_astrolaberef1_Fits b)
    rw [opt_eval2] at hr
    exact ⟨b.1.1.1, b.1.1.2.1.2.1, b.1.2.1, (Prod.mk.inj e).1, (Prod.mk.inj e).2, hr⟩
  · cases hr
theorem n_astrolaberef1_Fits {σ : Type} (q : (Bool) → Option σ) (x0 : Bool) (x1 : Nat → Int) (x2 : Int) : (f_astrolaberef1_Fits x0 x1 x2).bind q = K_astrolaberef1_Fits f_astrolaberef1_Pow f_astrolaberef1_less  x0 x1 x2 q := by
  unfold f_astrolaberef1_Fits
  exact m_astrolaberef1_Fits q f_astrolaberef1_Pow f_astrolaberef1_less   x0 x1 x2 some
theorem s_astrolaberef1_Fits : Sound Try.prog 27 (F_astrolaberef1_Fits f_astrolaberef1_Fits) :=
  (inl_sound (l := [(32, F_astrolaberef1_Pow f_astrolaberef1_Pow), (61, F_astrolaberef1_less f_astrolaberef1_less)]) (.cons s_astrolaberef1_Pow (.cons s_astrolaberef1_less (.nil _))) mixed [] [] 300 (by kernel_rfl)).by (F := F_astrolaberef1_Fits f_astrolaberef1_Fits) fun args b r hr => by
  obtain ⟨x0, x1, x2, rfl, rfl, hr1⟩ := e_astrolaberef1_Fits hr
  exact inl_eval ((d_astrolaberef1_Fits f_astrolaberef1_Pow f_astrolaberef1_less  x0 x1 x2).trans ((n_astrolaberef1_Fits (fun (d : Bool) => some (Res.mk (AV.r (RV.c (CV.f (FV.b d)))) [] [])) x0 x1 x2).symm.trans hr1))

def K_astrolaberef1_Small {ρ : Type}   (x0 : Bool) (x1 : Nat → Int) (k : (Int) → Option ρ) : Option ρ :=
  bif x0 then
    k
      (IntKind.wrap IntKind.i64
        (IntKind.wrap IntKind.i64
            (0 -
              IntKind.wrap IntKind.i64
                (IntKind.wrap IntKind.u64 (IntKind.wrap IntKind.u64 (Int.ofNat (BitVec.toNat (BitVec.ofInt 64 (IntKind.wrap IntKind.u64 (x1 1 * 4294967296)) ||| BitVec.ofInt 64 (x1 0)))) - 1))) -
          1))
  else k (IntKind.wrap IntKind.i64 (IntKind.wrap IntKind.u64 (Int.ofNat (BitVec.toNat (BitVec.ofInt 64 (IntKind.wrap IntKind.u64 (x1 1 * 4294967296)) ||| BitVec.ofInt 64 (x1 0))))))
def f_astrolaberef1_Small (x0 : Bool) (x1 : Nat → Int) : Option (Int) := K_astrolaberef1_Small   x0 x1 some
section
open Go.Ab.Rdr
def QA_astrolaberef1_Small := ((pair (cons (ar (ra (cons (gc (cf (fb hole))) (cons (ga (szl (nat 8)) (cons (ki .u64 hole) nil)) nil)))) nil) nil) : Rdr (List AV × List Blk) _)
end
def F_astrolaberef1_Small (f : (Bool) → (Nat → Int) → Option (Int)) : Sem1 := fun args h => match (QA_astrolaberef1_Small).rd (args, h) with
  | some b => .opt (f b.1.1.1 b.1.1.2.1.2.1) fun (d : Int) => .leaf (Res.mk (AV.r (RV.c (CV.f (FV.i IntKind.i64 d)))) [] [])
  | none => .fail
theorem d_astrolaberef1_Small   (x0 : Bool) (x1 : Nat → Int) : den Try.prog (envOf []) ⟨[], [], [], [], none⟩ 300 34 [.r (.agg [.c (.f (.b x0)), .a (.l 8) [.i .u64 x1]])] [] =
    K_astrolaberef1_Small   x0 x1 (fun (d : Int) => some (Res.mk (AV.r (RV.c (CV.f (FV.i IntKind.i64 d)))) [] [])) := by kernel_rfl
theorem m_astrolaberef1_Small {ρ σ : Type} (q : ρ → Option σ)    (x0 : Bool) (x1 : Nat → Int) (k : (Int) → Option ρ) : (K_astrolaberef1_Small   x0 x1 k).bind q = K_astrolaberef1_Small   x0 x1 (fun d => (k d).bind q) := by
  simp only [K_astrolaberef1_Small, bnd_cond, bnd_bind, bnd_none, bnd_sum]
theorem qa_astrolaberef1_Small : ∀ b, (QA_astrolaberef1_Small).em b = ([.r (.agg [.c (.f (.b b.1.1.1)), .a (.l 8) [.i .u64 b.1.1.2.1.2.1]])], []) := fun b => by kernel_rfl
theorem e_astrolaberef1_Small {f : (Bool) → (Nat → Int) → Option (Int)} {args : List AV} {h : List Blk} {r : Res} (hr : (F_astrolaberef1_Small f args h).eval = some r) : ∃ x0 x1, args = [.r (.agg [.c (.f (.b x0)), .a (.l 8) [.i .u64 x1]])] ∧ h = [] ∧ (f x0 x1).bind (fun (d : Int) => some (Res.mk (AV.r (RV.c (CV.f (FV.i IntKind.i64 d)))) [] [])) = some r := by
  unfold F_astrolaberef1_Small at hr
  split at hr
  · rename_i b hb
    have e := ((QA_astrolaberef1_Small).ok _ _ hb).trans (qa_astrolaberef1_Small b)
    rw [opt_eval2] at hr
    exact ⟨b.1.1.1, b.1.1.2.1.2.1, (Prod.mk.inj e).1, (Prod.mk.inj e).2, hr⟩
  · cases hr
theorem n_astrolaberef1_Small {σ : Type} (q : (Int) → Option σ) (x0 : Bool) (x1 : Nat → Int) : (f_astrolaberef1_Small x0 x1).bind q = K_astrolaberef1_Small   x0 x1 q := by
  unfold f_astrolaberef1_Small
  exact m_astrolaberef1_Small q    x0 x1 some
theorem s_astrolaberef1_Small : Sound Try.prog 34 (F_astrolaberef1_Small f_astrolaberef1_Small) :=
  (inl_sound (l := []) (.nil _) mixed [] [] 300 (by kernel_rfl)).by (F := F_astrolaberef1_Small f_astrolaberef1_Small) fun args b r hr => by
  obtain ⟨x0, x1, rfl, rfl, hr1⟩ := e_astrolaberef1_Small hr
  exact inl_eval ((d_astrolaberef1_Small   x0 x1).trans ((n_astrolaberef1_Small (fun (d : Int) => some (Res.mk (AV.r (RV.c (CV.f (FV.i IntKind.i64 d)))) [] [])) x0 x1).symm.trans hr1))

def S_astrolaberef1_Mul_1 {ρ : Type} (g_astrolaberef1_made : Bool → (Nat → Int) → Option (Bool × (Nat → Int)))  (x0 : Int) (x1 : Int) (x2 : Int) (x3 : Bool) (x4 : Nat → Int) (x5 : Bool) (x6 : Nat → Int) (x7 : Nat → Int) (x8 : Nat → Int) (c : (Int × Int × Int × Bool × (Nat → Int) × Bool × (Nat → Int) × (Nat → Int) × (Nat → Int)) → Option ρ) (x : (Int × Int × Int × Int × Bool × Bool × (Nat → Int) × Bool × (Nat → Int) × (Nat → Int) × (Nat → Int)) → Option ρ) : Option ρ :=
  bif decide (IntKind.wrap IntKind.i64 (x0 + x2) < 8) then
    bif inR (IntKind.wrap IntKind.i64 (x0 + x2)) 8 then
      bif inR x0 8 then
        bif inR x2 8 then
          bif inR (IntKind.wrap IntKind.i64 (x0 + x2)) 8 then
            bif true && Nat.ble (0 + Int.toNat (IntKind.wrap IntKind.i64 (x0 + x2)) * 1 + 1) 8 then
              c
                (x0,
                  Int.fdiv
                    (IntKind.wrap IntKind.u64 (IntKind.wrap IntKind.u64 (x1 + x8 (Int.toNat (IntKind.wrap IntKind.i64 (x0 + x2)))) + IntKind.wrap IntKind.u64 (x4 (Int.toNat x0) * x6 (Int.toNat x2))))
                    4294967296,
                  IntKind.wrap IntKind.i64 (x2 + 1), x3, x4, x5, x6, x7, fun (j : Nat) =>
                  bif Nat.beq j (Int.toNat (IntKind.wrap IntKind.i64 (x0 + x2))) then
                    IntKind.wrap IntKind.u64
                      (Int.ofNat
                        (BitVec.toNat
                          (BitVec.ofInt 64
                              (IntKind.wrap IntKind.u64
                                (IntKind.wrap IntKind.u64 (x1 + x8 (Int.toNat (IntKind.wrap IntKind.i64 (x0 + x2)))) + IntKind.wrap IntKind.u64 (x4 (Int.toNat x0) * x6 (Int.toNat x2)))) &&&
                            BitVec.ofInt 64 4294967295)))
                  else x8 j)
            else none
          else none
        else none
      else none
    else none
  else x (x0, x1, x2, IntKind.wrap IntKind.i64 (x0 + x2), decide (IntKind.wrap IntKind.i64 (x0 + x2) < 8), x3, x4, x5, x6, x7, x8)
section
open Go.Ab.Rdr
def Q_astrolaberef1_Mul_1 := (st (cons aund (cons aund (cons (ar (rc (cptr (nat 0) (ok' (nat 0)) (nat 9)))) (cons (ar (rc (cptr (nat 1) (ok' (nat 0)) (nat 9)))) (cons (ar (rc (cptr (nat 2) (ok' (nat 0)) (nat 9)))) (cons (ar (rc (cptr (nat 3) (ok' (nat 0)) (nat 8)))) (cons (ar (rc (cf (fi .i64 hole)))) (cons (ar (rc (cf (fi .u64 hole)))) (cons (ar (rc (cf (fi .i64 hole)))) (cons aund (cons aund (cons aund (cons aund (cons aund (cons aund (cons aund (cons aund (cons aund (cons aund (cons aund (cons aund (cons aund (cons aund (cons aund (cons aund (cons aund (cons aund (cons aund (cons aund (cons aund (cons aund (cons aund (cons aund (cons aund (cons aund (cons aund (cons aund (cons aund (cons aund (cons aund (cons aund (cons aund (cons aund (cons aund (cons aund (cons aund (cons aund (cons aund (cons aund (cons aund (cons aund nil))))))))))))))))))))))))))))))))))))))))))))))))))) (cons (some' (cons (gc (cf (fb hole))) (cons (ga (szl (nat 8)) (cons (ki .u64 hole) nil)) nil))) (cons (some' (cons (gc (cf (fb hole))) (cons (ga (szl (nat 8)) (cons (ki .u64 hole) nil)) nil))) (cons (some' (cons (gc (cf (fb (bool false)))) (cons (ga (szl (nat 8)) (cons (ki .u64 hole) nil)) nil))) (cons (some' (cons (ga (szl (nat 8)) (cons (ki .u64 hole) nil)) nil)) nil)))) nil)
end
theorem q_astrolaberef1_Mul_1 : ∀ b, (Q_astrolaberef1_Mul_1).em b = St.mk
    [AV.und, AV.und, AV.r (RV.c (CV.ptr 0 (Off.k 0) 9)), AV.r (RV.c (CV.ptr 1 (Off.k 0) 9)), AV.r (RV.c (CV.ptr 2 (Off.k 0) 9)), AV.r (RV.c (CV.ptr 3 (Off.k 0) 8)),
      AV.r (RV.c (CV.f (FV.i IntKind.i64 b.1.2.2.2.2.2.2.1))), AV.r (RV.c (CV.f (FV.i IntKind.u64 b.1.2.2.2.2.2.2.2.1))), AV.r (RV.c (CV.f (FV.i IntKind.i64 b.1.2.2.2.2.2.2.2.2.1))), AV.und, AV.und, AV.und, AV.und, AV.und, AV.und, AV.und, AV.und,
      AV.und, AV.und, AV.und, AV.und, AV.und, AV.und, AV.und, AV.und, AV.und, AV.und, AV.und, AV.und, AV.und, AV.und, AV.und, AV.und, AV.und, AV.und, AV.und, AV.und, AV.und, AV.und, AV.und, AV.und,
      AV.und, AV.und, AV.und, AV.und, AV.und, AV.und, AV.und, AV.und, AV.und, AV.und]
    [some [Sg.c (CV.f (FV.b b.2.1.1.1)), Sg.a (Sz.l 8) [Col.i IntKind.u64 b.2.1.1.2.1.2.1]], some [Sg.c (CV.f (FV.b b.2.1.2.1.1)), Sg.a (Sz.l 8) [Col.i IntKind.u64 b.2.1.2.1.2.1.2.1]],
      some [Sg.c (CV.f (FV.b false)), Sg.a (Sz.l 8) [Col.i IntKind.u64 b.2.1.2.2.1.2.1.2.1]], some [Sg.a (Sz.l 8) [Col.i IntKind.u64 b.2.1.2.2.2.1.1.2.1]]]
    [] := fun b => by kernel_rfl
def R_astrolaberef1_Mul_1 (l : ∀ {ρ : Type}, (Int × Int × Int × Bool × (Nat → Int) × Bool × (Nat → Int) × (Nat → Int) × (Nat → Int)) → ((Int × Int × Int × Int × Bool × Bool × (Nat → Int) × Bool × (Nat → Int) × (Nat → Int) × (Nat → Int)) → Option ρ) → Option ρ) {ρ : Type} (s : St) (K : AX → St → Option ρ) : Option ρ := ((Q_astrolaberef1_Mul_1).rd s).bind fun b => l (b.1.2.2.2.2.2.2.1, b.1.2.2.2.2.2.2.2.1, b.1.2.2.2.2.2.2.2.2.1, b.2.1.1.1, b.2.1.1.2.1.2.1, b.2.1.2.1.1, b.2.1.2.1.2.1.2.1, b.2.1.2.2.1.2.1.2.1, b.2.1.2.2.2.1.1.2.1) (fun d => K (AX.ex 2) (St.mk
  [AV.und, AV.und, AV.r (RV.c (CV.ptr 0 (Off.k 0) 9)), AV.r (RV.c (CV.ptr 1 (Off.k 0) 9)), AV.r (RV.c (CV.ptr 2 (Off.k 0) 9)), AV.r (RV.c (CV.ptr 3 (Off.k 0) 8)),
    AV.r (RV.c (CV.f (FV.i IntKind.i64 d.1))), AV.r (RV.c (CV.f (FV.i IntKind.u64 d.2.1))), AV.r (RV.c (CV.f (FV.i IntKind.i64 d.2.2.1))), AV.und, AV.und, AV.und, AV.und,
    AV.r (RV.c (CV.f (FV.i IntKind.i64 d.1))), AV.r (RV.c (CV.f (FV.i IntKind.i64 d.2.2.1))), AV.r (RV.c (CV.f (FV.i IntKind.i64 d.2.2.2.1))),
    AV.r (RV.c (CV.f (FV.b d.2.2.2.2.1))), AV.und, AV.und, AV.und, AV.und, AV.und, AV.und, AV.und, AV.und, AV.und, AV.und, AV.und, AV.und, AV.und, AV.und, AV.und, AV.und, AV.und, AV.und,
    AV.und, AV.und, AV.und, AV.und, AV.und, AV.und, AV.und, AV.und, AV.und, AV.und, AV.und, AV.und, AV.und, AV.und, AV.und, AV.und]
  [some [Sg.c (CV.f (FV.b d.2.2.2.2.2.1)), Sg.a (Sz.l 8) [Col.i IntKind.u64 d.2.2.2.2.2.2.1]],
    some [Sg.c (CV.f (FV.b d.2.2.2.2.2.2.2.1)), Sg.a (Sz.l 8) [Col.i IntKind.u64 d.2.2.2.2.2.2.2.2.1]],
    some [Sg.c (CV.f (FV.b false)), Sg.a (Sz.l 8) [Col.i IntKind.u64 d.2.2.2.2.2.2.2.2.2.1]], some [Sg.a (Sz.l 8) [Col.i IntKind.u64 d.2.2.2.2.2.2.2.2.2.2]]]
  []))
theorem ms_astrolaberef1_Mul_1 {ρ σ : Type} (g_astrolaberef1_made : Bool → (Nat → Int) → Option (Bool × (Nat → Int)))   (q : ρ → Option σ) (x0 : Int) (x1 : Int) (x2 : Int) (x3 : Bool) (x4 : Nat → Int) (x5 : Bool) (x6 : Nat → Int) (x7 : Nat → Int) (x8 : Nat → Int) (c : (Int × Int × Int × Bool × (Nat → Int) × Bool × (Nat → Int) × (Nat → Int) × (Nat → Int)) → Option ρ) (x : (Int × Int × Int × Int × Bool × Bool × (Nat → Int) × Bool × (Nat → Int) × (Nat → Int) × (Nat → Int)) → Option ρ) : (S_astrolaberef1_Mul_1 g_astrolaberef1_made  x0 x1 x2 x3 x4 x5 x6 x7 x8 c x).bind q = S_astrolaberef1_Mul_1 g_astrolaberef1_made  x0 x1 x2 x3 x4 x5 x6 x7 x8 (fun d => (c d).bind q) (fun d => (x d).bind q) := by
  simp only [S_astrolaberef1_Mul_1, bnd_cond, bnd_bind, bnd_none, bnd_sum]
def L_astrolaberef1_Mul_1 {ρ : Type} (d : Int × Int × Int × Bool × (Nat → Int) × Bool × (Nat → Int) × (Nat → Int) × (Nat → Int)) (k : (Int × Int × Int × Int × Bool × Bool × (Nat → Int) × Bool × (Nat → Int) × (Nat → Int) × (Nat → Int)) → Option ρ) : Option ρ := loopK (fun d c x => S_astrolaberef1_Mul_1 f_astrolaberef1_made  d.1 d.2.1 d.2.2.1 d.2.2.2.1 d.2.2.2.2.1 d.2.2.2.2.2.1 d.2.2.2.2.2.2.1 d.2.2.2.2.2.2.2.1 d.2.2.2.2.2.2.2.2 c x) 300 d k
theorem mL_astrolaberef1_Mul_1 {ρ σ : Type} (q : ρ → Option σ) (d : Int × Int × Int × Bool × (Nat → Int) × Bool × (Nat → Int) × (Nat → Int) × (Nat → Int)) (k : (Int × Int × Int × Int × Bool × Bool × (Nat → Int) × Bool × (Nat → Int) × (Nat → Int) × (Nat → Int)) → Option ρ) : (L_astrolaberef1_Mul_1 d k).bind q = L_astrolaberef1_Mul_1 d fun x => (k x).bind q :=
  loopK_bind q (fun d c x => ms_astrolaberef1_Mul_1 f_astrolaberef1_made   q d.1 d.2.1 d.2.2.1 d.2.2.2.1 d.2.2.2.2.1 d.2.2.2.2.2.1 d.2.2.2.2.2.2.1 d.2.2.2.2.2.2.2.1 d.2.2.2.2.2.2.2.2 c x) k _ d
def S_astrolaberef1_Mul_0 {ρ : Type} (g_astrolaberef1_made : Bool → (Nat → Int) → Option (Bool × (Nat → Int))) (l_1 : ∀ {ρ : Type}, (Int × Int × Int × Bool × (Nat → Int) × Bool × (Nat → Int) × (Nat → Int) × (Nat → Int)) → ((Int × Int × Int × Int × Bool × Bool × (Nat → Int) × Bool × (Nat → Int) × (Nat → Int) × (Nat → Int)) → Option ρ) → Option ρ) (x0 : Int) (x1 : Bool) (x2 : Nat → Int) (x3 : Bool) (x4 : Nat → Int) (x5 : Nat → Int) (x6 : Nat → Int) (c : (Int × Bool × (Nat → Int) × Bool × (Nat → Int) × (Nat → Int) × (Nat → Int)) → Option ρ) (x : (Int × Bool × Bool × (Nat → Int) × Bool × (Nat → Int) × (Nat → Int) × (Nat → Int)) → Option ρ) : Option ρ :=
  bif decide (x0 < 8) then
    l_1 (x0, 0, 0, x1, x2, x3, x4, x5, x6) fun (d : Int × Int × Int × Int × Bool × Bool × (Nat → Int) × Bool × (Nat → Int) × (Nat → Int) × (Nat → Int)) =>
      c
        (IntKind.wrap IntKind.i64 (d.1 + 1), d.2.2.2.2.2.1, d.2.2.2.2.2.2.1, d.2.2.2.2.2.2.2.1, d.2.2.2.2.2.2.2.2.1,
          d.2.2.2.2.2.2.2.2.2.1, d.2.2.2.2.2.2.2.2.2.2)
  else x (x0, decide (x0 < 8), x1, x2, x3, x4, x5, x6)
section
open Go.Ab.Rdr
def Q_astrolaberef1_Mul_0 := (st (cons aund (cons aund (cons (ar (rc (cptr (nat 0) (ok' (nat 0)) (nat 9)))) (cons (ar (rc (cptr (nat 1) (ok' (nat 0)) (nat 9)))) (cons (ar (rc (cptr (nat 2) (ok' (nat 0)) (nat 9)))) (cons (ar (rc (cptr (nat 3) (ok' (nat 0)) (nat 8)))) (cons (ar (rc (cf (fi .i64 hole)))) (cons aund (cons aund (cons aund (cons aund (cons aund (cons aund (cons aund (cons aund (cons aund (cons aund (cons aund (cons aund (cons aund (cons aund (cons aund (cons aund (cons aund (cons aund (cons aund (cons aund (cons aund (cons aund (cons aund (cons aund (cons aund (cons aund (cons aund (cons aund (cons aund (cons aund (cons aund (cons aund (cons aund (cons aund (cons aund (cons aund (cons aund (cons aund (cons aund (cons aund (cons aund (cons aund (cons aund (cons aund nil))))))))))))))))))))))))))))))))))))))))))))))))))) (cons (some' (cons (gc (cf (fb hole))) (cons (ga (szl (nat 8)) (cons (ki .u64 hole) nil)) nil))) (cons (some' (cons (gc (cf (fb hole))) (cons (ga (szl (nat 8)) (cons (ki .u64 hole) nil)) nil))) (cons (some' (cons (gc (cf (fb (bool false)))) (cons (ga (szl (nat 8)) (cons (ki .u64 hole) nil)) nil))) (cons (some' (cons (ga (szl (nat 8)) (cons (ki .u64 hole) nil)) nil)) nil)))) nil)
end
theorem q_astrolaberef1_Mul_0 : ∀ b, (Q_astrolaberef1_Mul_0).em b = St.mk
    [AV.und, AV.und, AV.r (RV.c (CV.ptr 0 (Off.k 0) 9)), AV.r (RV.c (CV.ptr 1 (Off.k 0) 9)), AV.r (RV.c (CV.ptr 2 (Off.k 0) 9)), AV.r (RV.c (CV.ptr 3 (Off.k 0) 8)),
      AV.r (RV.c (CV.f (FV.i IntKind.i64 b.1.2.2.2.2.2.2.1))), AV.und, AV.und, AV.und, AV.und, AV.und, AV.und, AV.und, AV.und, AV.und, AV.und, AV.und, AV.und, AV.und, AV.und, AV.und, AV.und, AV.und, AV.und, AV.und,
      AV.und, AV.und, AV.und, AV.und, AV.und, AV.und, AV.und, AV.und, AV.und, AV.und, AV.und, AV.und, AV.und, AV.und, AV.und, AV.und, AV.und, AV.und, AV.und, AV.und, AV.und, AV.und, AV.und, AV.und,
      AV.und]
    [some [Sg.c (CV.f (FV.b b.2.1.1.1)), Sg.a (Sz.l 8) [Col.i IntKind.u64 b.2.1.1.2.1.2.1]], some [Sg.c (CV.f (FV.b b.2.1.2.1.1)), Sg.a (Sz.l 8) [Col.i IntKind.u64 b.2.1.2.1.2.1.2.1]],
      some [Sg.c (CV.f (FV.b false)), Sg.a (Sz.l 8) [Col.i IntKind.u64 b.2.1.2.2.1.2.1.2.1]], some [Sg.a (Sz.l 8) [Col.i IntKind.u64 b.2.1.2.2.2.1.1.2.1]]]
    [] := fun b => by kernel_rfl
def R_astrolaberef1_Mul_0 (l : ∀ {ρ : Type}, (Int × Bool × (Nat → Int) × Bool × (Nat → Int) × (Nat → Int) × (Nat → Int)) → ((Int × Bool × Bool × (Nat → Int) × Bool × (Nat → Int) × (Nat → Int) × (Nat → Int)) → Option ρ) → Option ρ) {ρ : Type} (s : St) (K : AX → St → Option ρ) : Option ρ := ((Q_astrolaberef1_Mul_0).rd s).bind fun b => l (b.1.2.2.2.2.2.2.1, b.2.1.1.1, b.2.1.1.2.1.2.1, b.2.1.2.1.1, b.2.1.2.1.2.1.2.1, b.2.1.2.2.1.2.1.2.1, b.2.1.2.2.2.1.1.2.1) (fun d => K (AX.ex 0) (St.mk
  [AV.und, AV.und, AV.r (RV.c (CV.ptr 0 (Off.k 0) 9)), AV.r (RV.c (CV.ptr 1 (Off.k 0) 9)), AV.r (RV.c (CV.ptr 2 (Off.k 0) 9)), AV.r (RV.c (CV.ptr 3 (Off.k 0) 8)),
    AV.r (RV.c (CV.f (FV.i IntKind.i64 d.1))), AV.und, AV.und, AV.r (RV.c (CV.f (FV.i IntKind.i64 d.1))), AV.r (RV.c (CV.f (FV.b d.2.1))), AV.und, AV.und, AV.und, AV.und, AV.und, AV.und,
    AV.und, AV.und, AV.und, AV.und, AV.und, AV.und, AV.und, AV.und, AV.und, AV.und, AV.und, AV.und, AV.und, AV.und, AV.und, AV.und, AV.und, AV.und, AV.und, AV.und, AV.und, AV.und, AV.und, AV.und,
    AV.und, AV.und, AV.und, AV.und, AV.und, AV.und, AV.und, AV.und, AV.und, AV.und]
  [some [Sg.c (CV.f (FV.b d.2.2.1)), Sg.a (Sz.l 8) [Col.i IntKind.u64 d.2.2.2.1]],
    some [Sg.c (CV.f (FV.b d.2.2.2.2.1)), Sg.a (Sz.l 8) [Col.i IntKind.u64 d.2.2.2.2.2.1]],
    some [Sg.c (CV.f (FV.b false)), Sg.a (Sz.l 8) [Col.i IntKind.u64 d.2.2.2.2.2.2.1]], some [Sg.a (Sz.l 8) [Col.i IntKind.u64 d.2.2.2.2.2.2.2]]]
  []))
theorem ms_astrolaberef1_Mul_0 {ρ σ : Type} (g_astrolaberef1_made : Bool → (Nat → Int) → Option (Bool × (Nat → Int))) (l_1 : ∀ {ρ : Type}, (Int × Int × Int × Bool × (Nat → Int) × Bool × (Nat → Int) × (Nat → Int) × (Nat → Int)) → ((Int × Int × Int × Int × Bool × Bool × (Nat → Int) × Bool × (Nat → Int) × (Nat → Int) × (Nat → Int)) → Option ρ) → Option ρ) (hl_1 : ∀ {ρ σ : Type} (q : ρ → Option σ) (d : Int × Int × Int × Bool × (Nat → Int) × Bool × (Nat → Int) × (Nat → Int) × (Nat → Int)) (k : (Int × Int × Int × Int × Bool × Bool × (Nat → Int) × Bool × (Nat → Int) × (Nat → Int) × (Nat → Int)) → Option ρ), (l_1 d k).bind q = l_1 d fun x => (k x).bind q) (q : ρ → Option σ) (x0 : Int) (x1 : Bool) (x2 : Nat → Int) (x3 : Bool) (x4 : Nat → Int) (x5 : Nat → Int) (x6 : Nat → Int) (c : (Int × Bool × (Nat → Int) × Bool × (Nat → Int) × (Nat → Int) × (Nat → Int)) → Option ρ) (x : (Int × Bool × Bool × (Nat → Int) × Bool × (Nat → Int) × (Nat → Int) × (Nat → Int)) → Option ρ) : (S_astrolaberef1_Mul_0 g_astrolaberef1_made (@l_1) x0 x1 x2 x3 x4 x5 x6 c x).bind q = S_astrolaberef1_Mul_0 g_astrolaberef1_made (@l_1) x0 x1 x2 x3 x4 x5 x6 (fun d => (c d).bind q) (fun d => (x d).bind q) := by
  simp only [S_astrolaberef1_Mul_0, bnd_cond, bnd_bind, bnd_none, bnd_sum, hl_1]
def L_astrolaberef1_Mul_0 {ρ : Type} (d : Int × Bool × (Nat → Int) × Bool × (Nat → Int) × (Nat → Int) × (Nat → Int)) (k : (Int × Bool × Bool × (Nat → Int) × Bool × (Nat → Int) × (Nat → Int) × (Nat → Int)) → Option ρ) : Option ρ := loopK (fun d c x => S_astrolaberef1_Mul_0 f_astrolaberef1_made (@L_astrolaberef1_Mul_1) d.1 d.2.1 d.2.2.1 d.2.2.2.1 d.2.2.2.2.1 d.2.2.2.2.2.1 d.2.2.2.2.2.2 c x) 300 d k
theorem mL_astrolaberef1_Mul_0 {ρ σ : Type} (q : ρ → Option σ) (d : Int × Bool × (Nat → Int) × Bool × (Nat → Int) × (Nat → Int) × (Nat → Int)) (k : (Int × Bool × Bool × (Nat → Int) × Bool × (Nat → Int) × (Nat → Int) × (Nat → Int)) → Option ρ) : (L_astrolaberef1_Mul_0 d k).bind q = L_astrolaberef1_Mul_0 d fun x => (k x).bind q :=
  loopK_bind q (fun d c x => ms_astrolaberef1_Mul_0 f_astrolaberef1_made (@L_astrolaberef1_Mul_1) (fun q d k => mL_astrolaberef1_Mul_1 q d k) q d.1 d.2.1 d.2.2.1 d.2.2.2.1 d.2.2.2.2.1 d.2.2.2.2.2.1 d.2.2.2.2.2.2 c x) k _ d
theorem ds_astrolaberef1_Mul_1 {ρ : Type} (g_astrolaberef1_made : Bool → (Nat → Int) → Option (Bool × (Nat → Int))) (l_1 : ∀ {ρ : Type}, (Int × Int × Int × Bool × (Nat → Int) × Bool × (Nat → Int) × (Nat → Int) × (Nat → Int)) → ((Int × Int × Int × Int × Bool × Bool × (Nat → Int) × Bool × (Nat → Int) × (Nat → Int) × (Nat → Int)) → Option ρ) → Option ρ) (l_0 : ∀ {ρ : Type}, (Int × Bool × (Nat → Int) × Bool × (Nat → Int) × (Nat → Int) × (Nat → Int)) → ((Int × Bool × Bool × (Nat → Int) × Bool × (Nat → Int) × (Nat → Int) × (Nat → Int)) → Option ρ) → Option ρ) (x0 : Int) (x1 : Int) (x2 : Int) (x3 : Bool) (x4 : Nat → Int) (x5 : Bool) (x6 : Nat → Int) (x7 : Nat → Int) (x8 : Nat → Int) (c : St → Option ρ) (K : AX → St → Option ρ) :
    runC Try.prog (envOf [(58, F_astrolaberef1_made g_astrolaberef1_made)]) ⟨[⟨3, [0, 1, 7, 8, 9, 10, 11, 12, 13, 14, 15, 16, 17, 18, 19, 20, 21, 22, 23, 24, 25, 26, 27, 28, 29, 30, 31, 32, 33, 34, 35, 36, 37, 38, 39, 40, 41, 42, 43, 44, 45, 46, 47, 48, 49, 50], []⟩, ⟨7, [0, 1, 9, 10, 11, 12, 13, 14, 15, 16, 17, 18, 19, 20, 21, 22, 23, 24, 25, 26, 27, 28, 29, 30, 31, 32, 33, 34, 35, 36, 37, 38, 39, 40, 41, 42, 43, 44, 45, 46, 47, 48, 49, 50], []⟩], [⟨7, 0, @R_astrolaberef1_Mul_1 (@l_1)⟩, ⟨3, 0, @R_astrolaberef1_Mul_0 (@l_0)⟩], [], [], (some ⟨0, [0, 1, 2, 3, 5, 6, 7, 8, 9, 10, 11, 12, 13, 14, 15, 16, 17, 18, 19, 20, 21, 22, 23, 24, 25, 26, 27, 28, 29, 30, 31, 32, 33, 34, 35, 36, 37, 38, 39, 40, 41, 42, 43, 44, 45, 46, 47, 48, 49, 50], []⟩)⟩ (tmpsOf Try.prog 24) 0 300 (loopIn Try.prog 24 7)
      (St.mk
    [AV.und, AV.und, AV.r (RV.c (CV.ptr 0 (Off.k 0) 9)), AV.r (RV.c (CV.ptr 1 (Off.k 0) 9)), AV.r (RV.c (CV.ptr 2 (Off.k 0) 9)), AV.r (RV.c (CV.ptr 3 (Off.k 0) 8)),
      AV.r (RV.c (CV.f (FV.i IntKind.i64 x0))), AV.r (RV.c (CV.f (FV.i IntKind.u64 x1))), AV.r (RV.c (CV.f (FV.i IntKind.i64 x2))), AV.und, AV.und, AV.und, AV.und, AV.und, AV.und, AV.und, AV.und,
      AV.und, AV.und, AV.und, AV.und, AV.und, AV.und, AV.und, AV.und, AV.und, AV.und, AV.und, AV.und, AV.und, AV.und, AV.und, AV.und, AV.und, AV.und, AV.und, AV.und, AV.und, AV.und, AV.und, AV.und,
      AV.und, AV.und, AV.und, AV.und, AV.und, AV.und, AV.und, AV.und, AV.und, AV.und]
    [some [Sg.c (CV.f (FV.b x3)), Sg.a (Sz.l 8) [Col.i IntKind.u64 x4]], some [Sg.c (CV.f (FV.b x5)), Sg.a (Sz.l 8) [Col.i IntKind.u64 x6]],
      some [Sg.c (CV.f (FV.b false)), Sg.a (Sz.l 8) [Col.i IntKind.u64 x7]], some [Sg.a (Sz.l 8) [Col.i IntKind.u64 x8]]]
    [])
      (next (fun t => t.head 0 ⟨[⟨3, [0, 1, 7, 8, 9, 10, 11, 12, 13, 14, 15, 16, 17, 18, 19, 20, 21, 22, 23, 24, 25, 26, 27, 28, 29, 30, 31, 32, 33, 34, 35, 36, 37, 38, 39, 40, 41, 42, 43, 44, 45, 46, 47, 48, 49, 50], []⟩, ⟨7, [0, 1, 9, 10, 11, 12, 13, 14, 15, 16, 17, 18, 19, 20, 21, 22, 23, 24, 25, 26, 27, 28, 29, 30, 31, 32, 33, 34, 35, 36, 37, 38, 39, 40, 41, 42, 43, 44, 45, 46, 47, 48, 49, 50], []⟩], [⟨7, 0, @R_astrolaberef1_Mul_1 (@l_1)⟩, ⟨3, 0, @R_astrolaberef1_Mul_0 (@l_0)⟩], [], [], (some ⟨0, [0, 1, 2, 3, 5, 6, 7, 8, 9, 10, 11, 12, 13, 14, 15, 16, 17, 18, 19, 20, 21, 22, 23, 24, 25, 26, 27, 28, 29, 30, 31, 32, 33, 34, 35, 36, 37, 38, 39, 40, 41, 42, 43, 44, 45, 46, 47, 48, 49, 50], []⟩)⟩ (loopIn Try.prog 24 7)) c K) =
    S_astrolaberef1_Mul_1 g_astrolaberef1_made  x0 x1 x2 x3 x4 x5 x6 x7 x8 (fun d => c (St.mk
  [AV.und, AV.und, AV.r (RV.c (CV.ptr 0 (Off.k 0) 9)), AV.r (RV.c (CV.ptr 1 (Off.k 0) 9)), AV.r (RV.c (CV.ptr 2 (Off.k 0) 9)), AV.r (RV.c (CV.ptr 3 (Off.k 0) 8)),
    AV.r (RV.c (CV.f (FV.i IntKind.i64 d.1))), AV.r (RV.c (CV.f (FV.i IntKind.u64 d.2.1))), AV.r (RV.c (CV.f (FV.i IntKind.i64 d.2.2.1))), AV.und, AV.und, AV.und, AV.und, AV.und, AV.und,
    AV.und, AV.und, AV.und, AV.und, AV.und, AV.und, AV.und, AV.und, AV.und, AV.und, AV.und, AV.und, AV.und, AV.und, AV.und, AV.und, AV.und, AV.und, AV.und, AV.und, AV.und, AV.und, AV.und, AV.und,
    AV.und, AV.und, AV.und, AV.und, AV.und, AV.und, AV.und, AV.und, AV.und, AV.und, AV.und, AV.und]
  [some [Sg.c (CV.f (FV.b d.2.2.2.1)), Sg.a (Sz.l 8) [Col.i IntKind.u64 d.2.2.2.2.1]],
    some [Sg.c (CV.f (FV.b d.2.2.2.2.2.1)), Sg.a (Sz.l 8) [Col.i IntKind.u64 d.2.2.2.2.2.2.1]],
    some [Sg.c (CV.f (FV.b false)), Sg.a (Sz.l 8) [Col.i IntKind.u64 d.2.2.2.2.2.2.2.1]], some [Sg.a (Sz.l 8) [Col.i IntKind.u64 d.2.2.2.2.2.2.2.2]]]
  [])) (fun d => K (AX.ex 2) (St.mk
  [AV.und, AV.und, AV.r (RV.c (CV.ptr 0 (Off.k 0) 9)), AV.r (RV.c (CV.ptr 1 (Off.k 0) 9)), AV.r (RV.c (CV.ptr 2 (Off.k 0) 9)), AV.r (RV.c (CV.ptr 3 (Off.k 0) 8)),
    AV.r (RV.c (CV.f (FV.i IntKind.i64 d.1))), AV.r (RV.c (CV.f (FV.i IntKind.u64 d.2.1))), AV.r (RV.c (CV.f (FV.i IntKind.i64 d.2.2.1))), AV.und, AV.und, AV.und, AV.und,
    AV.r (RV.c (CV.f (FV.i IntKind.i64 d.1))), AV.r (RV.c (CV.f (FV.i IntKind.i64 d.2.2.1))), AV.r (RV.c (CV.f (FV.i IntKind.i64 d.2.2.2.1))),
    AV.r (RV.c (CV.f (FV.b d.2.2.2.2.1))), AV.und, AV.und, AV.und, AV.und, AV.und, AV.und, AV.und, AV.und, AV.und, AV.und, AV.und, AV.und, AV.und, AV.und, AV.und, AV.und, AV.und, AV.und,
    AV.und, AV.und, AV.und, AV.und, AV.und, AV.und, AV.und, AV.und, AV.und, AV.und, AV.und, AV.und, AV.und, AV.und, AV.und, AV.und]
  [some [Sg.c (CV.f (FV.b d.2.2.2.2.2.1)), Sg.a (Sz.l 8) [Col.i IntKind.u64 d.2.2.2.2.2.2.1]],
    some [Sg.c (CV.f (FV.b d.2.2.2.2.2.2.2.1)), Sg.a (Sz.l 8) [Col.i IntKind.u64 d.2.2.2.2.2.2.2.2.1]],
    some [Sg.c (CV.f (FV.b false)), Sg.a (Sz.l 8) [Col.i IntKind.u64 d.2.2.2.2.2.2.2.2.2.1]], some [Sg.a (Sz.l 8) [Col.i IntKind.u64 d.2.2.2.2.2.2.2.2.2.2]]]
  [])) := by kernel_rfl
theorem it_astrolaberef1_Mul_1 {ρ : Type} (x0 : Int) (x1 : Int) (x2 : Int) (x3 : Bool) (x4 : Nat → Int) (x5 : Bool) (x6 : Nat → Int) (x7 : Nat → Int) (x8 : Nat → Int) (K : AX → St → Option ρ) :
    iter (fun t => t.head 0 ⟨[⟨3, [0, 1, 7, 8, 9, 10, 11, 12, 13, 14, 15, 16, 17, 18, 19, 20, 21, 22, 23, 24, 25, 26, 27, 28, 29, 30, 31, 32, 33, 34, 35, 36, 37, 38, 39, 40, 41, 42, 43, 44, 45, 46, 47, 48, 49, 50], []⟩, ⟨7, [0, 1, 9, 10, 11, 12, 13, 14, 15, 16, 17, 18, 19, 20, 21, 22, 23, 24, 25, 26, 27, 28, 29, 30, 31, 32, 33, 34, 35, 36, 37, 38, 39, 40, 41, 42, 43, 44, 45, 46, 47, 48, 49, 50], []⟩], [⟨7, 0, @R_astrolaberef1_Mul_1 (@L_astrolaberef1_Mul_1)⟩, ⟨3, 0, @R_astrolaberef1_Mul_0 (@L_astrolaberef1_Mul_0)⟩], [], [], (some ⟨0, [0, 1, 2, 3, 5, 6, 7, 8, 9, 10, 11, 12, 13, 14, 15, 16, 17, 18, 19, 20, 21, 22, 23, 24, 25, 26, 27, 28, 29, 30, 31, 32, 33, 34, 35, 36, 37, 38, 39, 40, 41, 42, 43, 44, 45, 46, 47, 48, 49, 50], []⟩)⟩ (loopIn Try.prog 24 7)) (runC Try.prog (envOf [(58, F_astrolaberef1_made f_astrolaberef1_made)]) ⟨[⟨3, [0, 1, 7, 8, 9, 10, 11, 12, 13, 14, 15, 16, 17, 18, 19, 20, 21, 22, 23, 24, 25, 26, 27, 28, 29, 30, 31, 32, 33, 34, 35, 36, 37, 38, 39, 40, 41, 42, 43, 44, 45, 46, 47, 48, 49, 50], []⟩, ⟨7, [0, 1, 9, 10, 11, 12, 13, 14, 15, 16, 17, 18, 19, 20, 21, 22, 23, 24, 25, 26, 27, 28, 29, 30, 31, 32, 33, 34, 35, 36, 37, 38, 39, 40, 41, 42, 43, 44, 45, 46, 47, 48, 49, 50], []⟩], [⟨7, 0, @R_astrolaberef1_Mul_1 (@L_astrolaberef1_Mul_1)⟩, ⟨3, 0, @R_astrolaberef1_Mul_0 (@L_astrolaberef1_Mul_0)⟩], [], [], (some ⟨0, [0, 1, 2, 3, 5, 6, 7, 8, 9, 10, 11, 12, 13, 14, 15, 16, 17, 18, 19, 20, 21, 22, 23, 24, 25, 26, 27, 28, 29, 30, 31, 32, 33, 34, 35, 36, 37, 38, 39, 40, 41, 42, 43, 44, 45, 46, 47, 48, 49, 50], []⟩)⟩ (tmpsOf Try.prog 24) 0 300 (loopIn Try.prog 24 7)) K 300
      (St.mk
    [AV.und, AV.und, AV.r (RV.c (CV.ptr 0 (Off.k 0) 9)), AV.r (RV.c (CV.ptr 1 (Off.k 0) 9)), AV.r (RV.c (CV.ptr 2 (Off.k 0) 9)), AV.r (RV.c (CV.ptr 3 (Off.k 0) 8)),
      AV.r (RV.c (CV.f (FV.i IntKind.i64 x0))), AV.r (RV.c (CV.f (FV.i IntKind.u64 x1))), AV.r (RV.c (CV.f (FV.i IntKind.i64 x2))), AV.und, AV.und, AV.und, AV.und, AV.und, AV.und, AV.und, AV.und,
      AV.und, AV.und, AV.und, AV.und, AV.und, AV.und, AV.und, AV.und, AV.und, AV.und, AV.und, AV.und, AV.und, AV.und, AV.und, AV.und, AV.und, AV.und, AV.und, AV.und, AV.und, AV.und, AV.und, AV.und,
      AV.und, AV.und, AV.und, AV.und, AV.und, AV.und, AV.und, AV.und, AV.und, AV.und]
    [some [Sg.c (CV.f (FV.b x3)), Sg.a (Sz.l 8) [Col.i IntKind.u64 x4]], some [Sg.c (CV.f (FV.b x5)), Sg.a (Sz.l 8) [Col.i IntKind.u64 x6]],
      some [Sg.c (CV.f (FV.b false)), Sg.a (Sz.l 8) [Col.i IntKind.u64 x7]], some [Sg.a (Sz.l 8) [Col.i IntKind.u64 x8]]]
    []) = L_astrolaberef1_Mul_1 (x0, x1, x2, x3, x4, x5, x6, x7, x8) (fun d => K (AX.ex 2) (St.mk
  [AV.und, AV.und, AV.r (RV.c (CV.ptr 0 (Off.k 0) 9)), AV.r (RV.c (CV.ptr 1 (Off.k 0) 9)), AV.r (RV.c (CV.ptr 2 (Off.k 0) 9)), AV.r (RV.c (CV.ptr 3 (Off.k 0) 8)),
    AV.r (RV.c (CV.f (FV.i IntKind.i64 d.1))), AV.r (RV.c (CV.f (FV.i IntKind.u64 d.2.1))), AV.r (RV.c (CV.f (FV.i IntKind.i64 d.2.2.1))), AV.und, AV.und, AV.und, AV.und,
    AV.r (RV.c (CV.f (FV.i IntKind.i64 d.1))), AV.r (RV.c (CV.f (FV.i IntKind.i64 d.2.2.1))), AV.r (RV.c (CV.f (FV.i IntKind.i64 d.2.2.2.1))),
    AV.r (RV.c (CV.f (FV.b d.2.2.2.2.1))), AV.und, AV.und, AV.und, AV.und, AV.und, AV.und, AV.und, AV.und, AV.und, AV.und, AV.und, AV.und, AV.und, AV.und, AV.und, AV.und, AV.und, AV.und,
    AV.und, AV.und, AV.und, AV.und, AV.und, AV.und, AV.und, AV.und, AV.und, AV.und, AV.und, AV.und, AV.und, AV.und, AV.und, AV.und]
  [some [Sg.c (CV.f (FV.b d.2.2.2.2.2.1)), Sg.a (Sz.l 8) [Col.i IntKind.u64 d.2.2.2.2.2.2.1]],
    some [Sg.c (CV.f (FV.b d.2.2.2.2.2.2.2.1)), Sg.a (Sz.l 8) [Col.i IntKind.u64 d.2.2.2.2.2.2.2.2.1]],
    some [Sg.c (CV.f (FV.b false)), Sg.a (Sz.l 8) [Col.i IntKind.u64 d.2.2.2.2.2.2.2.2.2.1]], some [Sg.a (Sz.l 8) [Col.i IntKind.u64 d.2.2.2.2.2.2.2.2.2.2]]]
  [])) :=
  iter_loopX (emb := fun (d : Int × Int × Int × Bool × (Nat → Int) × Bool × (Nat → Int) × (Nat → Int) × (Nat → Int)) => St.mk
  [AV.und, AV.und, AV.r (RV.c (CV.ptr 0 (Off.k 0) 9)), AV.r (RV.c (CV.ptr 1 (Off.k 0) 9)), AV.r (RV.c (CV.ptr 2 (Off.k 0) 9)), AV.r (RV.c (CV.ptr 3 (Off.k 0) 8)),
    AV.r (RV.c (CV.f (FV.i IntKind.i64 d.1))), AV.r (RV.c (CV.f (FV.i IntKind.u64 d.2.1))), AV.r (RV.c (CV.f (FV.i IntKind.i64 d.2.2.1))), AV.und, AV.und, AV.und, AV.und, AV.und, AV.und,
    AV.und, AV.und, AV.und, AV.und, AV.und, AV.und, AV.und, AV.und, AV.und, AV.und, AV.und, AV.und, AV.und, AV.und, AV.und, AV.und, AV.und, AV.und, AV.und, AV.und, AV.und, AV.und, AV.und, AV.und,
    AV.und, AV.und, AV.und, AV.und, AV.und, AV.und, AV.und, AV.und, AV.und, AV.und, AV.und, AV.und]
  [some [Sg.c (CV.f (FV.b d.2.2.2.1)), Sg.a (Sz.l 8) [Col.i IntKind.u64 d.2.2.2.2.1]],
    some [Sg.c (CV.f (FV.b d.2.2.2.2.2.1)), Sg.a (Sz.l 8) [Col.i IntKind.u64 d.2.2.2.2.2.2.1]],
    some [Sg.c (CV.f (FV.b false)), Sg.a (Sz.l 8) [Col.i IntKind.u64 d.2.2.2.2.2.2.2.1]], some [Sg.a (Sz.l 8) [Col.i IntKind.u64 d.2.2.2.2.2.2.2.2]]]
  []) (step := fun d c x => S_astrolaberef1_Mul_1 f_astrolaberef1_made  d.1 d.2.1 d.2.2.1 d.2.2.2.1 d.2.2.2.2.1 d.2.2.2.2.2.1 d.2.2.2.2.2.2.1 d.2.2.2.2.2.2.2.1 d.2.2.2.2.2.2.2.2 c x) (kx := (fun d => K (AX.ex 2) (St.mk
  [AV.und, AV.und, AV.r (RV.c (CV.ptr 0 (Off.k 0) 9)), AV.r (RV.c (CV.ptr 1 (Off.k 0) 9)), AV.r (RV.c (CV.ptr 2 (Off.k 0) 9)), AV.r (RV.c (CV.ptr 3 (Off.k 0) 8)),
    AV.r (RV.c (CV.f (FV.i IntKind.i64 d.1))), AV.r (RV.c (CV.f (FV.i IntKind.u64 d.2.1))), AV.r (RV.c (CV.f (FV.i IntKind.i64 d.2.2.1))), AV.und, AV.und, AV.und, AV.und,
    AV.r (RV.c (CV.f (FV.i IntKind.i64 d.1))), AV.r (RV.c (CV.f (FV.i IntKind.i64 d.2.2.1))), AV.r (RV.c (CV.f (FV.i IntKind.i64 d.2.2.2.1))),
    AV.r (RV.c (CV.f (FV.b d.2.2.2.2.1))), AV.und, AV.und, AV.und, AV.und, AV.und, AV.und, AV.und, AV.und, AV.und, AV.und, AV.und, AV.und, AV.und, AV.und, AV.und, AV.und, AV.und, AV.und,
    AV.und, AV.und, AV.und, AV.und, AV.und, AV.und, AV.und, AV.und, AV.und, AV.und, AV.und, AV.und, AV.und, AV.und, AV.und, AV.und]
  [some [Sg.c (CV.f (FV.b d.2.2.2.2.2.1)), Sg.a (Sz.l 8) [Col.i IntKind.u64 d.2.2.2.2.2.2.1]],
    some [Sg.c (CV.f (FV.b d.2.2.2.2.2.2.2.1)), Sg.a (Sz.l 8) [Col.i IntKind.u64 d.2.2.2.2.2.2.2.2.1]],
    some [Sg.c (CV.f (FV.b false)), Sg.a (Sz.l 8) [Col.i IntKind.u64 d.2.2.2.2.2.2.2.2.2.1]], some [Sg.a (Sz.l 8) [Col.i IntKind.u64 d.2.2.2.2.2.2.2.2.2.2]]]
  [])))
    (fun d c => ds_astrolaberef1_Mul_1 f_astrolaberef1_made (@L_astrolaberef1_Mul_1) (@L_astrolaberef1_Mul_0) d.1 d.2.1 d.2.2.1 d.2.2.2.1 d.2.2.2.2.1 d.2.2.2.2.2.1 d.2.2.2.2.2.2.1 d.2.2.2.2.2.2.2.1 d.2.2.2.2.2.2.2.2 c K) 300 (x0, x1, x2, x3, x4, x5, x6, x7, x8)
theorem so_astrolaberef1_Mul_1 : ∀ kk, SumOK Try.prog (envOf [(58, F_astrolaberef1_made f_astrolaberef1_made)]) ⟨[⟨3, [0, 1, 7, 8, 9, 10, 11, 12, 13, 14, 15, 16, 17, 18, 19, 20, 21, 22, 23, 24, 25, 26, 27, 28, 29, 30, 31, 32, 33, 34, 35, 36, 37, 38, 39, 40, 41, 42, 43, 44, 45, 46, 47, 48, 49, 50], []⟩, ⟨7, [0, 1, 9, 10, 11, 12, 13, 14, 15, 16, 17, 18, 19, 20, 21, 22, 23, 24, 25, 26, 27, 28, 29, 30, 31, 32, 33, 34, 35, 36, 37, 38, 39, 40, 41, 42, 43, 44, 45, 46, 47, 48, 49, 50], []⟩], [⟨7, 0, @R_astrolaberef1_Mul_1 (@L_astrolaberef1_Mul_1)⟩, ⟨3, 0, @R_astrolaberef1_Mul_0 (@L_astrolaberef1_Mul_0)⟩], [], [], (some ⟨0, [0, 1, 2, 3, 5, 6, 7, 8, 9, 10, 11, 12, 13, 14, 15, 16, 17, 18, 19, 20, 21, 22, 23, 24, 25, 26, 27, 28, 29, 30, 31, 32, 33, 34, 35, 36, 37, 38, 39, 40, 41, 42, 43, 44, 45, 46, 47, 48, 49, 50], []⟩)⟩ (tmpsOf Try.prog 24) kk 300 (loopIn Try.prog 24 7) :=
  SumOK.of (id := 7) (k0 := 0) (run := @R_astrolaberef1_Mul_1 (@L_astrolaberef1_Mul_1)) (by kernel_rfl) fun s K r hr => by
    unfold R_astrolaberef1_Mul_1 at hr
    obtain ⟨b, hb, hr1⟩ := Option.bind_eq_some_iff.1 hr
    have e := ((Q_astrolaberef1_Mul_1).ok s b hb).trans (q_astrolaberef1_Mul_1 b)
    subst e
    exact ⟨300, (it_astrolaberef1_Mul_1 b.1.2.2.2.2.2.2.1 b.1.2.2.2.2.2.2.2.1 b.1.2.2.2.2.2.2.2.2.1 b.2.1.1.1 b.2.1.1.2.1.2.1 b.2.1.2.1.1 b.2.1.2.1.2.1.2.1 b.2.1.2.2.1.2.1.2.1 b.2.1.2.2.2.1.1.2.1 K).trans hr1⟩
theorem ds_astrolaberef1_Mul_0 {ρ : Type} (g_astrolaberef1_made : Bool → (Nat → Int) → Option (Bool × (Nat → Int))) (l_1 : ∀ {ρ : Type}, (Int × Int × Int × Bool × (Nat → Int) × Bool × (Nat → Int) × (Nat → Int) × (Nat → Int)) → ((Int × Int × Int × Int × Bool × Bool × (Nat → Int) × Bool × (Nat → Int) × (Nat → Int) × (Nat → Int)) → Option ρ) → Option ρ) (l_0 : ∀ {ρ : Type}, (Int × Bool × (Nat → Int) × Bool × (Nat → Int) × (Nat → Int) × (Nat → Int)) → ((Int × Bool × Bool × (Nat → Int) × Bool × (Nat → Int) × (Nat → Int) × (Nat → Int)) → Option ρ) → Option ρ) (x0 : Int) (x1 : Bool) (x2 : Nat → Int) (x3 : Bool) (x4 : Nat → Int) (x5 : Nat → Int) (x6 : Nat → Int) (c : St → Option ρ) (K : AX → St → Option ρ) :
    runC Try.prog (envOf [(58, F_astrolaberef1_made g_astrolaberef1_made)]) ⟨[⟨3, [0, 1, 7, 8, 9, 10, 11, 12, 13, 14, 15, 16, 17, 18, 19, 20, 21, 22, 23, 24, 25, 26, 27, 28, 29, 30, 31, 32, 33, 34, 35, 36, 37, 38, 39, 40, 41, 42, 43, 44, 45, 46, 47, 48, 49, 50], []⟩, ⟨7, [0, 1, 9, 10, 11, 12, 13, 14, 15, 16, 17, 18, 19, 20, 21, 22, 23, 24, 25, 26, 27, 28, 29, 30, 31, 32, 33, 34, 35, 36, 37, 38, 39, 40, 41, 42, 43, 44, 45, 46, 47, 48, 49, 50], []⟩], [⟨7, 0, @R_astrolaberef1_Mul_1 (@l_1)⟩, ⟨3, 0, @R_astrolaberef1_Mul_0 (@l_0)⟩], [], [], (some ⟨0, [0, 1, 2, 3, 5, 6, 7, 8, 9, 10, 11, 12, 13, 14, 15, 16, 17, 18, 19, 20, 21, 22, 23, 24, 25, 26, 27, 28, 29, 30, 31, 32, 33, 34, 35, 36, 37, 38, 39, 40, 41, 42, 43, 44, 45, 46, 47, 48, 49, 50], []⟩)⟩ (tmpsOf Try.prog 24) 0 300 (loopIn Try.prog 24 3)
      (St.mk
    [AV.und, AV.und, AV.r (RV.c (CV.ptr 0 (Off.k 0) 9)), AV.r (RV.c (CV.ptr 1 (Off.k 0) 9)), AV.r (RV.c (CV.ptr 2 (Off.k 0) 9)), AV.r (RV.c (CV.ptr 3 (Off.k 0) 8)),
      AV.r (RV.c (CV.f (FV.i IntKind.i64 x0))), AV.und, AV.und, AV.und, AV.und, AV.und, AV.und, AV.und, AV.und, AV.und, AV.und, AV.und, AV.und, AV.und, AV.und, AV.und, AV.und, AV.und, AV.und, AV.und,
      AV.und, AV.und, AV.und, AV.und, AV.und, AV.und, AV.und, AV.und, AV.und, AV.und, AV.und, AV.und, AV.und, AV.und, AV.und, AV.und, AV.und, AV.und, AV.und, AV.und, AV.und, AV.und, AV.und, AV.und,
      AV.und]
    [some [Sg.c (CV.f (FV.b x1)), Sg.a (Sz.l 8) [Col.i IntKind.u64 x2]], some [Sg.c (CV.f (FV.b x3)), Sg.a (Sz.l 8) [Col.i IntKind.u64 x4]],
      some [Sg.c (CV.f (FV.b false)), Sg.a (Sz.l 8) [Col.i IntKind.u64 x5]], some [Sg.a (Sz.l 8) [Col.i IntKind.u64 x6]]]
    [])
      (next (fun t => t.head 0 ⟨[⟨3, [0, 1, 7, 8, 9, 10, 11, 12, 13, 14, 15, 16, 17, 18, 19, 20, 21, 22, 23, 24, 25, 26, 27, 28, 29, 30, 31, 32, 33, 34, 35, 36, 37, 38, 39, 40, 41, 42, 43, 44, 45, 46, 47, 48, 49, 50], []⟩, ⟨7, [0, 1, 9, 10, 11, 12, 13, 14, 15, 16, 17, 18, 19, 20, 21, 22, 23, 24, 25, 26, 27, 28, 29, 30, 31, 32, 33, 34, 35, 36, 37, 38, 39, 40, 41, 42, 43, 44, 45, 46, 47, 48, 49, 50], []⟩], [⟨7, 0, @R_astrolaberef1_Mul_1 (@l_1)⟩, ⟨3, 0, @R_astrolaberef1_Mul_0 (@l_0)⟩], [], [], (some ⟨0, [0, 1, 2, 3, 5, 6, 7, 8, 9, 10, 11, 12, 13, 14, 15, 16, 17, 18, 19, 20, 21, 22, 23, 24, 25, 26, 27, 28, 29, 30, 31, 32, 33, 34, 35, 36, 37, 38, 39, 40, 41, 42, 43, 44, 45, 46, 47, 48, 49, 50], []⟩)⟩ (loopIn Try.prog 24 3)) c K) =
    S_astrolaberef1_Mul_0 g_astrolaberef1_made (@l_1) x0 x1 x2 x3 x4 x5 x6 (fun d => c (St.mk
  [AV.und, AV.und, AV.r (RV.c (CV.ptr 0 (Off.k 0) 9)), AV.r (RV.c (CV.ptr 1 (Off.k 0) 9)), AV.r (RV.c (CV.ptr 2 (Off.k 0) 9)), AV.r (RV.c (CV.ptr 3 (Off.k 0) 8)),
    AV.r (RV.c (CV.f (FV.i IntKind.i64 d.1))), AV.und, AV.und, AV.und, AV.und, AV.und, AV.und, AV.und, AV.und, AV.und, AV.und, AV.und, AV.und, AV.und, AV.und, AV.und, AV.und, AV.und, AV.und, AV.und,
    AV.und, AV.und, AV.und, AV.und, AV.und, AV.und, AV.und, AV.und, AV.und, AV.und, AV.und, AV.und, AV.und, AV.und, AV.und, AV.und, AV.und, AV.und, AV.und, AV.und, AV.und, AV.und, AV.und, AV.und,
    AV.und]
  [some [Sg.c (CV.f (FV.b d.2.1)), Sg.a (Sz.l 8) [Col.i IntKind.u64 d.2.2.1]], some [Sg.c (CV.f (FV.b d.2.2.2.1)), Sg.a (Sz.l 8) [Col.i IntKind.u64 d.2.2.2.2.1]],
    some [Sg.c (CV.f (FV.b false)), Sg.a (Sz.l 8) [Col.i IntKind.u64 d.2.2.2.2.2.1]], some [Sg.a (Sz.l 8) [Col.i IntKind.u64 d.2.2.2.2.2.2]]]
  [])) (fun d => K (AX.ex 0) (St.mk
  [AV.und, AV.und, AV.r (RV.c (CV.ptr 0 (Off.k 0) 9)), AV.r (RV.c (CV.ptr 1 (Off.k 0) 9)), AV.r (RV.c (CV.ptr 2 (Off.k 0) 9)), AV.r (RV.c (CV.ptr 3 (Off.k 0) 8)),
    AV.r (RV.c (CV.f (FV.i IntKind.i64 d.1))), AV.und, AV.und, AV.r (RV.c (CV.f (FV.i IntKind.i64 d.1))), AV.r (RV.c (CV.f (FV.b d.2.1))), AV.und, AV.und, AV.und, AV.und, AV.und, AV.und,
    AV.und, AV.und, AV.und, AV.und, AV.und, AV.und, AV.und, AV.und, AV.und, AV.und, AV.und, AV.und, AV.und, AV.und, AV.und, AV.und, AV.und, AV.und, AV.und, AV.und, AV.und, AV.und, AV.und, AV.und,
    AV.und, AV.und, AV.und, AV.und, AV.und, AV.und, AV.und, AV.und, AV.und, AV.und]
  [some [Sg.c (CV.f (FV.b d.2.2.1)), Sg.a (Sz.l 8) [Col.i IntKind.u64 d.2.2.2.1]],
    some [Sg.c (CV.f (FV.b d.2.2.2.2.1)), Sg.a (Sz.l 8) [Col.i IntKind.u64 d.2.2.2.2.2.1]],
    some [Sg.c (CV.f (FV.b false)), Sg.a (Sz.l 8) [Col.i IntKind.u64 d.2.2.2.2.2.2.1]], some [Sg.a (Sz.l 8) [Col.i IntKind.u64 d.2.2.2.2.2.2.2]]]
  [])) := by kernel_rfl
theorem it_astrolaberef1_Mul_0 {ρ : Type} (x0 : Int) (x1 : Bool) (x2 : Nat → Int) (x3 : Bool) (x4 : Nat → Int) (x5 : Nat → Int) (x6 : Nat → Int) (K : AX → St → Option ρ) :
    iter (fun t => t.head 0 ⟨[⟨3, [0, 1, 7, 8, 9, 10, 11, 12, 13, 14, 15, 16, 17, 18, 19, 20, 21, 22, 23, 24, 25, 26, 27, 28, 29, 30, 31, 32, 33, 34, 35, 36, 37, 38, 39, 40, 41, 42, 43, 44, 45, 46, 47, 48, 49, 50], []⟩, ⟨7, [0, 1, 9, 10, 11, 12, 13, 14, 15, 16, 17, 18, 19, 20, 21, 22, 23, 24, 25, 26, 27, 28, 29, 30, 31, 32, 33, 34, 35, 36, 37, 38, 39, 40, 41, 42, 43, 44, 45, 46, 47, 48, 49, 50], []⟩], [⟨7, 0, @R_astrolaberef1_Mul_1 (@L_astrolaberef1_Mul_1)⟩, ⟨3, 0, @R_astrolaberef1_Mul_0 (@L_astrolaberef1_Mul_0)⟩], [], [], (some ⟨0, [0, 1, 2, 3, 5, 6, 7, 8, 9, 10, 11, 12, 13, 14, 15, 16, 17, 18, 19, 20, 21, 22, 23, 24, 25, 26, 27, 28, 29, 30, 31, 32, 33, 34, 35, 36, 37, 38, 39, 40, 41, 42, 43, 44, 45, 46, 47, 48, 49, 50], []⟩)⟩ (loopIn Try.prog 24 3)) (runC Try.prog (envOf [(58, F_astrolaberef1_made f_astrolaberef1_made)]) ⟨[⟨3, [0, 1, 7, 8, 9, 10, 11, 12, 13, 14, 15, 16, 17, 18, 19, 20, 21, 22, 23, 24, 25, 26, 27, 28, 29, 30, 31, 32, 33, 34, 35, 36, 37, 38, 39, 40, 41, 42, 43, 44, 45, 46, 47, 48, 49, 50], []⟩, ⟨7, [0, 1, 9, 10, 11, 12, 13, 14, 15, 16, 17, 18, 19, 20, 21, 22, 23, 24, 25, 26, 27, 28, 29, 30, 31, 32, 33, 34, 35, 36, 37, 38, 39, 40, 41, 42, 43, 44, 45, 46, 47, 48, 49, 50], []⟩], [⟨7, 0, @R_astrolaberef1_Mul_1 (@L_astrolaberef1_Mul_1)⟩, ⟨3, 0, @R_astrolaberef1_Mul_0 (@L_astrolaberef1_Mul_0)⟩], [], [], (some ⟨0, [0, 1, 2, 3, 5, 6, 7, 8, 9, 10, 11, 12, 13, 14, 15, 16, 17, 18, 19, 20, 21, 22, 23, 24, 25, 26, 27, 28, 29, 30, 31, 32, 33, 34, 35, 36, 37, 38, 39, 40, 41, 42, 43, 44, 45, 46, 47, 48, 49, 50], []⟩)⟩ (tmpsOf Try.prog 24) 0 300 (loopIn Try.prog 24 3)) K 300
      (St.mk
    [AV.und, AV.und, AV.r (RV.c (CV.ptr 0 (Off.k 0) 9)), AV.r (RV.c (CV.ptr 1 (Off.k 0) 9)), AV.r (RV.c (CV.ptr 2 (Off.k 0) 9)), AV.r (RV.c (CV.ptr 3 (Off.k 0) 8)),
      AV.r (RV.c (CV.f (FV.i IntKind.i64 x0))), AV.und, AV.und, AV.und, AV.und, AV.und, AV.und, AV.und, AV.und, AV.und, AV.und, AV.und, AV.und, AV.und, AV.und, AV.und, AV.und, AV.und, AV.und, AV.und,
      AV.und, AV.und, AV.und, AV.und, AV.und, AV.und, AV.und, AV.und, AV.und, AV.und, AV.und, AV.und, AV.und, AV.und, AV.und, AV.und, AV.und, AV.und, AV.und, AV.und, AV.und, AV.und, AV.und, AV.und,
      AV.und]
    [some [Sg.c (CV.f (FV.b x1)), Sg.a (Sz.l 8) [Col.i IntKind.u64 x2]], some [Sg.c (CV.f (FV.b x3)), Sg.a (Sz.l 8) [Col.i IntKind.u64 x4]],
      some [Sg.c (CV.f (FV.b false)), Sg.a (Sz.l 8) [Col.i IntKind.u64 x5]], some [Sg.a (Sz.l 8) [Col.i IntKind.u64 x6]]]
    []) = L_astrolaberef1_Mul_0 (x0, x1, x2, x3, x4, x5, x6) (fun d => K (AX.ex 0) (St.mk
  [AV.und, AV.und, AV.r (RV.c (CV.ptr 0 (Off.k 0) 9)), AV.r (RV.c (CV.ptr 1 (Off.k 0) 9)), AV.r (RV.c (CV.ptr 2 (Off.k 0) 9)), AV.r (RV.c (CV.ptr 3 (Off.k 0) 8)),
    AV.r (RV.c (CV.f (FV.i IntKind.i64 d.1))), AV.und, AV.und, AV.r (RV.c (CV.f (FV.i IntKind.i64 d.1))), AV.r (RV.c (CV.f (FV.b d.2.1))), AV.und, AV.und, AV.und, AV.und, AV.und, AV.und,
    AV.und, AV.und, AV.und, AV.und, AV.und, AV.und, AV.und, AV.und, AV.und, AV.und, AV.und, AV.und, AV.und, AV.und, AV.und, AV.und, AV.und, AV.und, AV.und, AV.und, AV.und, AV.und, AV.und, AV.und,
    AV.und, AV.und, AV.und, AV.und, AV.und, AV.und, AV.und, AV.und, AV.und, AV.und]
  [some [Sg.c (CV.f (FV.b d.2.2.1)), Sg.a (Sz.l 8) [Col.i IntKind.u64 d.2.2.2.1]],
    some [Sg.c (CV.f (FV.b d.2.2.2.2.1)), Sg.a (Sz.l 8) [Col.i IntKind.u64 d.2.2.2.2.2.1]],
    some [Sg.c (CV.f (FV.b false)), Sg.a (Sz.l 8) [Col.i IntKind.u64 d.2.2.2.2.2.2.1]], some [Sg.a (Sz.l 8) [Col.i IntKind.u64 d.2.2.2.2.2.2.2]]]
  [])) :=
  iter_loopX (emb := fun (d : Int × Bool × (Nat → Int) × Bool × (Nat → Int) × (Nat → Int) × (Nat → Int)) => St.mk
  [AV.und, AV.und, AV.r (RV.c (CV.ptr 0 (Off.k 0) 9)), AV.r (RV.c (CV.ptr 1 (Off.k 0) 9)), AV.r (RV.c (CV.ptr 2 (Off.k 0) 9)), AV.r (RV.c (CV.ptr 3 (Off.k 0) 8)),
    AV.r (RV.c (CV.f (FV.i IntKind.i64 d.1))), AV.und, AV.und, AV.und, AV.und, AV.und, AV.und, AV.und, AV.und, AV.und, AV.und, AV.und, AV.und, AV.und, AV.und, AV.und, AV.und, AV.und, AV.und, AV.und,
    AV.und, AV.und, AV.und, AV.und, AV.und, AV.und, AV.und, AV.und, AV.und, AV.und, AV.und, AV.und, AV.und, AV.und, AV.und, AV.und, AV.und, AV.und, AV.und, AV.und, AV.und, AV.und, AV.und, AV.und,
    AV.und]
  [some [Sg.c (CV.f (FV.b d.2.1)), Sg.a (Sz.l 8) [Col.i IntKind.u64 d.2.2.1]], some [Sg.c (CV.f (FV.b d.2.2.2.1)), Sg.a (Sz.l 8) [Col.i IntKind.u64 d.2.2.2.2.1]],
    some [Sg.c (CV.f (FV.b false)), Sg.a (Sz.l 8) [Col.i IntKind.u64 d.2.2.2.2.2.1]], some [Sg.a (Sz.l 8) [Col.i IntKind.u64 d.2.2.2.2.2.2]]]
  []) (step := fun d c x => S_astrolaberef1_Mul_0 f_astrolaberef1_made (@L_astrolaberef1_Mul_1) d.1 d.2.1 d.2.2.1 d.2.2.2.1 d.2.2.2.2.1 d.2.2.2.2.2.1 d.2.2.2.2.2.2 c x) (kx := (fun d => K (AX.ex 0) (St.mk
  [AV.und, AV.und, AV.r (RV.c (CV.ptr 0 (Off.k 0) 9)), AV.r (RV.c (CV.ptr 1 (Off.k 0) 9)), AV.r (RV.c (CV.ptr 2 (Off.k 0) 9)), AV.r (RV.c (CV.ptr 3 (Off.k 0) 8)),
    AV.r (RV.c (CV.f (FV.i IntKind.i64 d.1))), AV.und, AV.und, AV.r (RV.c (CV.f (FV.i IntKind.i64 d.1))), AV.r (RV.c (CV.f (FV.b d.2.1))), AV.und, AV.und, AV.und, AV.und, AV.und, AV.und,
    AV.und, AV.und, AV.und, AV.und, AV.und, AV.und, AV.und, AV.und, AV.und, AV.und, AV.und, AV.und, AV.und, AV.und, AV.und, AV.und, AV.und, AV.und, AV.und, AV.und, AV.und, AV.und, AV.und, AV.und,
    AV.und, AV.und, AV.und, AV.und, AV.und, AV.und, AV.und, AV.und, AV.und, AV.und]
  [some [Sg.c (CV.f (FV.b d.2.2.1)), Sg.a (Sz.l 8) [Col.i IntKind.u64 d.2.2.2.1]],
    some [Sg.c (CV.f (FV.b d.2.2.2.2.1)), Sg.a (Sz.l 8) [Col.i IntKind.u64 d.2.2.2.2.2.1]],
    some [Sg.c (CV.f (FV.b false)), Sg.a (Sz.l 8) [Col.i IntKind.u64 d.2.2.2.2.2.2.1]], some [Sg.a (Sz.l 8) [Col.i IntKind.u64 d.2.2.2.2.2.2.2]]]
  [])))
    (fun d c => ds_astrolaberef1_Mul_0 f_astrolaberef1_made (@L_astrolaberef1_Mul_1) (@L_astrolaberef1_Mul_0) d.1 d.2.1 d.2.2.1 d.2.2.2.1 d.2.2.2.2.1 d.2.2.2.2.2.1 d.2.2.2.2.2.2 c K) 300 (x0, x1, x2, x3, x4, x5, x6)
theorem so_astrolaberef1_Mul_0 : ∀ kk, SumOK Try.prog (envOf [(58, F_astrolaberef1_made f_astrolaberef1_made)]) ⟨[⟨3, [0, 1, 7, 8, 9, 10, 11, 12, 13, 14, 15, 16, 17, 18, 19, 20, 21, 22, 23, 24, 25, 26, 27, 28, 29, 30, 31, 32, 33, 34, 35, 36, 37, 38, 39, 40, 41, 42, 43, 44, 45, 46, 47, 48, 49, 50], []⟩, ⟨7, [0, 1, 9, 10, 11, 12, 13, 14, 15, 16, 17, 18, 19, 20, 21, 22, 23, 24, 25, 26, 27, 28, 29, 30, 31, 32, 33, 34, 35, 36, 37, 38, 39, 40, 41, 42, 43, 44, 45, 46, 47, 48, 49, 50], []⟩], [⟨7, 0, @R_astrolaberef1_Mul_1 (@L_astrolaberef1_Mul_1)⟩, ⟨3, 0, @R_astrolaberef1_Mul_0 (@L_astrolaberef1_Mul_0)⟩], [], [], (some ⟨0, [0, 1, 2, 3, 5, 6, 7, 8, 9, 10, 11, 12, 13, 14, 15, 16, 17, 18, 19, 20, 21, 22, 23, 24, 25, 26, 27, 28, 29, 30, 31, 32, 33, 34, 35, 36, 37, 38, 39, 40, 41, 42, 43, 44, 45, 46, 47, 48, 49, 50], []⟩)⟩ (tmpsOf Try.prog 24) kk 300 (loopIn Try.prog 24 3) :=
  SumOK.of (id := 3) (k0 := 0) (run := @R_astrolaberef1_Mul_0 (@L_astrolaberef1_Mul_0)) (by kernel_rfl) fun s K r hr => by
    unfold R_astrolaberef1_Mul_0 at hr
    obtain ⟨b, hb, hr1⟩ := Option.bind_eq_some_iff.1 hr
    have e := ((Q_astrolaberef1_Mul_0).ok s b hb).trans (q_astrolaberef1_Mul_0 b)
    subst e
    exact ⟨300, (it_astrolaberef1_Mul_0 b.1.2.2.2.2.2.2.1 b.2.1.1.1 b.2.1.1.2.1.2.1 b.2.1.2.1.1 b.2.1.2.1.2.1.2.1 b.2.1.2.2.1.2.1.2.1 b.2.1.2.2.2.1.1.2.1 K).trans hr1⟩
def K_astrolaberef1_Mul {ρ : Type} (g_astrolaberef1_made : Bool → (Nat → Int) → Option (Bool × (Nat → Int))) (l_1 : ∀ {ρ : Type}, (Int × Int × Int × Bool × (Nat → Int) × Bool × (Nat → Int) × (Nat → Int) × (Nat → Int)) → ((Int × Int × Int × Int × Bool × Bool × (Nat → Int) × Bool × (Nat → Int) × (Nat → Int) × (Nat → Int)) → Option ρ) → Option ρ) (l_0 : ∀ {ρ : Type}, (Int × Bool × (Nat → Int) × Bool × (Nat → Int) × (Nat → Int) × (Nat → Int)) → ((Int × Bool × Bool × (Nat → Int) × Bool × (Nat → Int) × (Nat → Int) × (Nat → Int)) → Option ρ) → Option ρ) (x0 : Bool) (x1 : Nat → Int) (x2 : Bool) (x3 : Nat → Int) (k : (Bool × (Nat → Int)) → Option ρ) : Option ρ :=
  l_0 (0, x0, x1, x2, x3, fun (x : Nat) => 0, fun (x : Nat) => 0) fun (d : Int × Bool × Bool × (Nat → Int) × Bool × (Nat → Int) × (Nat → Int) × (Nat → Int)) =>
    Option.bind (g_astrolaberef1_made (!d.2.2.1 == d.2.2.2.2.1) d.2.2.2.2.2.2.2) fun (d : Bool × (Nat → Int)) => k (d.1, d.2)
def f_astrolaberef1_Mul (x0 : Bool) (x1 : Nat → Int) (x2 : Bool) (x3 : Nat → Int) : Option (Bool × (Nat → Int)) := K_astrolaberef1_Mul f_astrolaberef1_made (@L_astrolaberef1_Mul_1) (@L_astrolaberef1_Mul_0) x0 x1 x2 x3 some
section
open Go.Ab.Rdr
def QA_astrolaberef1_Mul := ((pair (cons (ar (ra (cons (gc (cf (fb hole))) (cons (ga (szl (nat 8)) (cons (ki .u64 hole) nil)) nil)))) (cons (ar (ra (cons (gc (cf (fb hole))) (cons (ga (szl (nat 8)) (cons (ki .u64 hole) nil)) nil)))) nil)) nil) : Rdr (List AV × List Blk) _)
end
def F_astrolaberef1_Mul (f : (Bool) → (Nat → Int) → (Bool) → (Nat → Int) → Option (Bool × (Nat → Int))) : Sem1 := fun args h => match (QA_astrolaberef1_Mul).rd (args, h) with
  | some b => .opt (f b.1.1.1 b.1.1.2.1.2.1 b.1.2.1.1 b.1.2.1.2.1.2.1) fun (d : Bool × (Nat → Int)) => .leaf (Res.mk (AV.r (RV.agg [Sg.c (CV.f (FV.b d.1)), Sg.a (Sz.l 8) [Col.i IntKind.u64 d.2]])) [] [])
  | none => .fail
theorem d_astrolaberef1_Mul (g_astrolaberef1_made : Bool → (Nat → Int) → Option (Bool × (Nat → Int))) (l_1 : ∀ {ρ : Type}, (Int × Int × Int × Bool × (Nat → Int) × Bool × (Nat → Int) × (Nat → Int) × (Nat → Int)) → ((Int × Int × Int × Int × Bool × Bool × (Nat → Int) × Bool × (Nat → Int) × (Nat → Int) × (Nat → Int)) → Option ρ) → Option ρ) (l_0 : ∀ {ρ : Type}, (Int × Bool × (Nat → Int) × Bool × (Nat → Int) × (Nat → Int) × (Nat → Int)) → ((Int × Bool × Bool × (Nat → Int) × Bool × (Nat → Int) × (Nat → Int) × (Nat → Int)) → Option ρ) → Option ρ) (x0 : Bool) (x1 : Nat → Int) (x2 : Bool) (x3 : Nat → Int) : den Try.prog (envOf [(58, F_astrolaberef1_made g_astrolaberef1_made)]) ⟨[⟨3, [0, 1, 7, 8, 9, 10, 11, 12, 13, 14, 15, 16, 17, 18, 19, 20, 21, 22, 23, 24, 25, 26, 27, 28, 29, 30, 31, 32, 33, 34, 35, 36, 37, 38, 39, 40, 41, 42, 43, 44, 45, 46, 47, 48, 49, 50], []⟩, ⟨7, [0, 1, 9, 10, 11, 12, 13, 14, 15, 16, 17, 18, 19, 20, 21, 22, 23, 24, 25, 26, 27, 28, 29, 30, 31, 32, 33, 34, 35, 36, 37, 38, 39, 40, 41, 42, 43, 44, 45, 46, 47, 48, 49, 50], []⟩], [⟨7, 0, @R_astrolaberef1_Mul_1 (@l_1)⟩, ⟨3, 0, @R_astrolaberef1_Mul_0 (@l_0)⟩], [], [], (some ⟨0, [0, 1, 2, 3, 5, 6, 7, 8, 9, 10, 11, 12, 13, 14, 15, 16, 17, 18, 19, 20, 21, 22, 23, 24, 25, 26, 27, 28, 29, 30, 31, 32, 33, 34, 35, 36, 37, 38, 39, 40, 41, 42, 43, 44, 45, 46, 47, 48, 49, 50], []⟩)⟩ 300 24 [.r (.agg [.c (.f (.b x0)), .a (.l 8) [.i .u64 x1]]), .r (.agg [.c (.f (.b x2)), .a (.l 8) [.i .u64 x3]])] [] =
    K_astrolaberef1_Mul g_astrolaberef1_made (@l_1) (@l_0) x0 x1 x2 x3 (fun (d : Bool × (Nat → Int)) => some (Res.mk (AV.r (RV.agg [Sg.c (CV.f (FV.b d.1)), Sg.a (Sz.l 8) [Col.i IntKind.u64 d.2]])) [] [])) := by kernel_rfl
theorem m_astrolaberef1_Mul {ρ σ : Type} (q : ρ → Option σ) (g_astrolaberef1_made : Bool → (Nat → Int) → Option (Bool × (Nat → Int))) (l_1 : ∀ {ρ : Type}, (Int × Int × Int × Bool × (Nat → Int) × Bool × (Nat → Int) × (Nat → Int) × (Nat → Int)) → ((Int × Int × Int × Int × Bool × Bool × (Nat → Int) × Bool × (Nat → Int) × (Nat → Int) × (Nat → Int)) → Option ρ) → Option ρ) (l_0 : ∀ {ρ : Type}, (Int × Bool × (Nat → Int) × Bool × (Nat → Int) × (Nat → Int) × (Nat → Int)) → ((Int × Bool × Bool × (Nat → Int) × Bool × (Nat → Int) × (Nat → Int) × (Nat → Int)) → Option ρ) → Option ρ) (hl_1 : ∀ {ρ σ : Type} (q : ρ → Option σ) (d : Int × Int × Int × Bool × (Nat → Int) × Bool × (Nat → Int) × (Nat → Int) × (Nat → Int)) (k : (Int × Int × Int × Int × Bool × Bool × (Nat → Int) × Bool × (Nat → Int) × (Nat → Int) × (Nat → Int)) → Option ρ), (l_1 d k).bind q = l_1 d fun x => (k x).bind q) (hl_0 : ∀ {ρ σ : Type} (q : ρ → Option σ) (d : Int × Bool × (Nat → Int) × Bool × (Nat → Int) × (Nat → Int) × (Nat → Int)) (k : (Int × Bool × Bool × (Nat → Int) × Bool × (Nat → Int) × (Nat → Int) × (Nat → Int)) → Option ρ), (l_0 d k).bind q = l_0 d fun x => (k x).bind q) (x0 : Bool) (x1 : Nat → Int) (x2 : Bool) (x3 : Nat → Int) (k : (Bool × (Nat → Int)) → Option ρ) : (K_astrolaberef1_Mul g_astrolaberef1_made (@l_1) (@l_0) x0 x1 x2 x3 k).bind q = K_astrolaberef1_Mul g_astrolaberef1_made (@l_1) (@l_0) x0 x1 x2 x3 (fun d => (k d).bind q) := by
  simp only [K_astrolaberef1_Mul, bnd_cond, bnd_bind, bnd_none, bnd_sum, hl_1, hl_0]
theorem qa_astrolaberef1_Mul : ∀ b, (QA_astrolaberef1_Mul).em b = ([.r (.agg [.c (.f (.b b.1.1.1)), .a (.l 8) [.i .u64 b.1.1.2.1.2.1]]), .r (.agg [.c (.f (.b b.1.2.1.1)), .a (.l 8) [.i .u64 b.1.2.1.2.1.2.1]])], []) := fun b => by kernel_rfl
theorem e_astrolaberef1_Mul {f : (Bool) → (Nat → Int) → (Bool) → (Nat → Int) → Option (Bool × (Nat → Int))} {args : List AV} {h : List Blk} {r : Res} (hr : (F_astrolaberef1_Mul f args h).eval = some r) : ∃ x0 x1 x2 x3, args = [.r (.agg [.c (.f (.b x0)), .a (.l 8) [.i .u64 x1]]), .r (.agg [.c (.f (.b x2)), .a (.l 8) [.i .u64 x3]])] ∧ h = [] ∧ (f x0 x1 x2 x3).bind (fun (d : Bool × (Nat → Int)) => some (Res.mk (AV.r (RV.agg [Sg.c (CV.f (FV.b d.1)), Sg.a (Sz.l 8) [Col.i IntKind.u64 d.2]])) [] [])) = some r := by
  unfold F_astrolaberef1_Mul at hr
  split at hr
  · rename_i b hb
    have e := ((QA_astrolaberef1_Mul).ok _ _ hb).trans (qa_astrolaberef1_Mul b)
    rw [opt_eval2] at hr
    exact ⟨b.1.1.1, b.1.1.2.1.2.1, b.1.2.1.1, b.1.2.1.2.1.2.1, (Prod.mk.inj e).1, (Prod.mk.inj e).2, hr⟩
  · cases hr
theorem n_astrolaberef1_Mul {σ : Type} (q : (Bool × (Nat → Int)) → Option σ) (x0 : Bool) (x1 : Nat → Int) (x2 : Bool) (x3 : Nat → Int) : (f_astrolaberef1_Mul x0 x1 x2 x3).bind q = K_astrolaberef1_Mul f_astrolaberef1_made (@L_astrolaberef1_Mul_1) (@L_astrolaberef1_Mul_0) x0 x1 x2 x3 q := by
  unfold f_astrolaberef1_Mul
  exact m_astrolaberef1_Mul q f_astrolaberef1_made (@L_astrolaberef1_Mul_1) (@L_astrolaberef1_Mul_0) (fun q d k => mL_astrolaberef1_Mul_1 q d k) (fun q d k => mL_astrolaberef1_Mul_0 q d k) x0 x1 x2 x3 some
theorem s_astrolaberef1_Mul : Sound Try.prog 24 (F_astrolaberef1_Mul f_astrolaberef1_Mul) :=
  (inl_sums (l := [(58, F_astrolaberef1_made f_astrolaberef1_made)]) (.cons s_astrolaberef1_made (.nil _)) mixed (hs := ⟨[⟨3, [0, 1, 7, 8, 9, 10, 11, 12, 13, 14, 15, 16, 17, 18, 19, 20, 21, 22, 23, 24, 25, 26, 27, 28, 29, 30, 31, 32, 33, 34, 35, 36, 37, 38, 39, 40, 41, 42, 43, 44, 45, 46, 47, 48, 49, 50], []⟩, ⟨7, [0, 1, 9, 10, 11, 12, 13, 14, 15, 16, 17, 18, 19, 20, 21, 22, 23, 24, 25, 26, 27, 28, 29, 30, 31, 32, 33, 34, 35, 36, 37, 38, 39, 40, 41, 42, 43, 44, 45, 46, 47, 48, 49, 50], []⟩], [⟨7, 0, @R_astrolaberef1_Mul_1 (@L_astrolaberef1_Mul_1)⟩, ⟨3, 0, @R_astrolaberef1_Mul_0 (@L_astrolaberef1_Mul_0)⟩], [], [], (some ⟨0, [0, 1, 2, 3, 5, 6, 7, 8, 9, 10, 11, 12, 13, 14, 15, 16, 17, 18, 19, 20, 21, 22, 23, 24, 25, 26, 27, 28, 29, 30, 31, 32, 33, 34, 35, 36, 37, 38, 39, 40, 41, 42, 43, 44, 45, 46, 47, 48, 49, 50], []⟩)⟩) (lf := 300) (Sums.by (l := [loopIn Try.prog 24 3, loopIn Try.prog 24 7]) (lj := []) (by kernel_rfl) ⟨so_astrolaberef1_Mul_0, ⟨so_astrolaberef1_Mul_1, trivial⟩⟩ (by kernel_rfl) trivial) (by kernel_rfl)).by (F := F_astrolaberef1_Mul f_astrolaberef1_Mul) fun args b r hr => by
  obtain ⟨x0, x1, x2, x3, rfl, rfl, hr1⟩ := e_astrolaberef1_Mul hr
  exact inl_eval ((d_astrolaberef1_Mul f_astrolaberef1_made (@L_astrolaberef1_Mul_1) (@L_astrolaberef1_Mul_0) x0 x1 x2 x3).trans ((n_astrolaberef1_Mul (fun (d : Bool × (Nat → Int)) => some (Res.mk (AV.r (RV.agg [Sg.c (CV.f (FV.b d.1)), Sg.a (Sz.l 8) [Col.i IntKind.u64 d.2]])) [] [])) x0 x1 x2 x3).symm.trans hr1))

def K_astrolabelaw1_big {ρ : Type} (g_astrolaberef1_Wide : Int → Int → Option (Bool × (Nat → Int)))  (x0 : Int) (x1 : Int) (k : (Bool × (Nat → Int)) → Option ρ) : Option ρ :=
  Option.bind (g_astrolaberef1_Wide x0 x1) fun (d : Bool × (Nat → Int)) => k (d.1, d.2)
def f_astrolabelaw1_big (x0 : Int) (x1 : Int) : Option (Bool × (Nat → Int)) := K_astrolabelaw1_big f_astrolaberef1_Wide  x0 x1 some
section
open Go.Ab.Rdr
def QA_astrolabelaw1_big := ((pair (cons (ar (ra (cons (gc (cf (fi .i64 hole))) (cons (gc (cf (fi .u64 hole))) nil)))) nil) nil) : Rdr (List AV × List Blk) _)
end
def F_astrolabelaw1_big (f : (Int) → (Int) → Option (Bool × (Nat → Int))) : Sem1 := fun args h => match (QA_astrolabelaw1_big).rd (args, h) with
  | some b => .opt (f b.1.1.1 b.1.1.2.1) fun (d : Bool × (Nat → Int)) => .leaf (Res.mk (AV.r (RV.agg [Sg.c (CV.f (FV.b d.1)), Sg.a (Sz.l 8) [Col.i IntKind.u64 d.2]])) [] [])
  | none => .fail
theorem d_astrolabelaw1_big (g_astrolaberef1_Wide : Int → Int → Option (Bool × (Nat → Int)))  (x0 : Int) (x1 : Int) : den Try.prog (envOf [(63, F_astrolaberef1_Wide g_astrolaberef1_Wide)]) ⟨[], [], [], [], none⟩ 300 26 [.r (.agg [.c (.f (.i .i64 x0)), .c (.f (.i .u64 x1))])] [] =
    K_astrolabelaw1_big g_astrolaberef1_Wide  x0 x1 (fun (d : Bool × (Nat → Int)) => some (Res.mk (AV.r (RV.agg [Sg.c (CV.f (FV.b d.1)), Sg.a (Sz.l 8) [Col.i IntKind.u64 d.2]])) [] [])) := by kernel_rfl
theorem m_astrolabelaw1_big {ρ σ : Type} (q : ρ → Option σ) (g_astrolaberef1_Wide : Int → Int → Option (Bool × (Nat → Int)))   (x0 : Int) (x1 : Int) (k : (Bool × (Nat → Int)) → Option ρ) : (K_astrolabelaw1_big g_astrolaberef1_Wide  x0 x1 k).bind q = K_astrolabelaw1_big g_astrolaberef1_Wide  x0 x1 (fun d => (k d).bind q) := by
  simp only [K_astrolabelaw1_big, bnd_cond, bnd_bind, bnd_none, bnd_sum]
theorem qa_astrolabelaw1_big : ∀ b, (QA_astrolabelaw1_big).em b = ([.r (.agg [.c (.f (.i .i64 b.1.1.1)), .c (.f (.i .u64 b.1.1.2.1))])], []) := fun b => by kernel_rfl
theorem e_astrolabelaw1_big {f : (Int) → (Int) → Option (Bool × (Nat → Int))} {args : List AV} {h : List Blk} {r : Res} (hr : (F_astrolabelaw1_big f args h).eval = some r) : ∃ x0 x1, args = [.r (.agg [.c (.f (.i .i64 x0)), .c (.f (.i .u64 x1))])] ∧ h = [] ∧ (f x0 x1).bind (fun (d : Bool × (Nat → Int)) => some (Res.mk (AV.r (RV.agg [Sg.c (CV.f (FV.b d.1)), Sg.a (Sz.l 8) [Col.i IntKind.u64 d.2]])) [] [])) = some r := by
  unfold F_astrolabelaw1_big at hr
  split at hr
  · rename_i b hb
    have e := ((QA_astrolabelaw1_big).ok _ _ hb).trans (qa_astrolabelaw1_big b)
    rw [opt_eval2] at hr
    exact ⟨b.1.1.1, b.1.1.2.1, (Prod.mk.inj e).1, (Prod.mk.inj e).2, hr⟩
  · cases hr
theorem n_astrolabelaw1_big {σ : Type} (q : (Bool × (Nat → Int)) → Option σ) (x0 : Int) (x1 : Int) : (f_astrolabelaw1_big x0 x1).bind q = K_astrolabelaw1_big f_astrolaberef1_Wide  x0 x1 q := by
  unfold f_astrolabelaw1_big
  exact m_astrolabelaw1_big q f_astrolaberef1_Wide   x0 x1 some
theorem s_astrolabelaw1_big : Sound Try.prog 26 (F_astrolabelaw1_big f_astrolabelaw1_big) :=
  (inl_sound (l := [(63, F_astrolaberef1_Wide f_astrolaberef1_Wide)]) (.cons s_astrolaberef1_Wide (.nil _)) mixed [] [] 300 (by kernel_rfl)).by (F := F_astrolabelaw1_big f_astrolabelaw1_big) fun args b r hr => by
  obtain ⟨x0, x1, rfl, rfl, hr1⟩ := e_astrolabelaw1_big hr
  exact inl_eval ((d_astrolabelaw1_big f_astrolaberef1_Wide  x0 x1).trans ((n_astrolabelaw1_big (fun (d : Bool × (Nat → Int)) => some (Res.mk (AV.r (RV.agg [Sg.c (CV.f (FV.b d.1)), Sg.a (Sz.l 8) [Col.i IntKind.u64 d.2]])) [] [])) x0 x1).symm.trans hr1))

def K_astrolabelaw1_same {ρ : Type} (g_astrolabelaw1_big : Int → Int → Option (Bool × (Nat → Int))) (g_astrolaberef1_Cmp : Bool → (Nat → Int) → Bool → (Nat → Int) → Option Int)  (x0 : Int) (x1 : Int) (x2 : Bool) (x3 : Nat → Int) (k : (Bool) → Option ρ) : Option ρ :=
  Option.bind (g_astrolabelaw1_big x0 x1) fun (d : Bool × (Nat → Int)) => Option.bind (g_astrolaberef1_Cmp d.1 d.2 x2 x3) fun (d : Int) => k (d == 0)
def f_astrolabelaw1_same (x0 : Int) (x1 : Int) (x2 : Bool) (x3 : Nat → Int) : Option (Bool) := K_astrolabelaw1_same f_astrolabelaw1_big f_astrolaberef1_Cmp  x0 x1 x2 x3 some
section
open Go.Ab.Rdr
def QA_astrolabelaw1_same := ((pair (cons (ar (ra (cons (gc (cf (fi .i64 hole))) (cons (gc (cf (fi .u64 hole))) nil)))) (cons (ar (ra (cons (gc (cf (fb hole))) (cons (ga (szl (nat 8)) (cons (ki .u64 hole) nil)) nil)))) nil)) nil) : Rdr (List AV × List Blk) _)
end
def F_astrolabelaw1_same (f : (Int) → (Int) → (Bool) → (Nat → Int) → Option (Bool)) : Sem1 := fun args h => match (QA_astrolabelaw1_same).rd (args, h) with
  | some b => .opt (f b.1.1.1 b.1.1.2.1 b.1.2.1.1 b.1.2.1.2.1.2.1) fun (d : Bool) => .leaf (Res.mk (AV.r (RV.c (CV.f (FV.b d)))) [] [])
  | none => .fail
theorem d_astrolabelaw1_same (g_astrolabelaw1_big : Int → Int → Option (Bool × (Nat → Int))) (g_astrolaberef1_Cmp : Bool → (Nat → Int) → Bool → (Nat → Int) → Option Int)  (x0 : Int) (x1 : Int) (x2 : Bool) (x3 : Nat → Int) : den Try.prog (envOf [(26, F_astrolabelaw1_big g_astrolabelaw1_big), (30, F_astrolaberef1_Cmp g_astrolaberef1_Cmp)]) ⟨[], [], [], [], none⟩ 300 21 [.r (.agg [.c (.f (.i .i64 x0)), .c (.f (.i .u64 x1))]), .r (.agg [.c (.f (.b x2)), .a (.l 8) [.i .u64 x3]])] [] =
    K_astrolabelaw1_same g_astrolabelaw1_big g_astrolaberef1_Cmp  x0 x1 x2 x3 (fun (d : Bool) => some (Res.mk (AV.r (RV.c (CV.f (FV.b d)))) [] [])) := by kernel_rfl
theorem m_astrolabelaw1_same {ρ σ : Type} (q : ρ → Option σ) (g_astrolabelaw1_big : Int → Int → Option (Bool × (Nat → Int))) (g_astrolaberef1_Cmp : Bool → (Nat → Int) → Bool → (Nat → Int) → Option Int)   (x0 : Int) (x1 : Int) (x2 : Bool) (x3 : Nat → Int) (k : (Bool) → Option ρ) : (K_astrolabelaw1_same g_astrolabelaw1_big g_astrolaberef1_Cmp  x0 x1 x2 x3 k).bind q = K_astrolabelaw1_same g_astrolabelaw1_big g_astrolaberef1_Cmp  x0 x1 x2 x3 (fun d => (k d).bind q) := by
  simp only [K_astrolabelaw1_same, bnd_cond, bnd_bind, bnd_none, bnd_sum]
theorem qa_astrolabelaw1_same : ∀ b, (QA_astrolabelaw1_same).em b = ([.r (.agg [.c (.f (.i .i64 b.1.1.1)), .c (.f (.i .u64 b.1.1.2.1))]), .r (.agg [.c (.f (.b b.1.2.1.1)), .a (.l 8) [.i .u64 b.1.2.1.2.1.2.1]])], []) := fun b => by kernel_rfl
theorem e_astrolabelaw1_same {f : (Int) → (Int) → (Bool) → (Nat → Int) → Option (Bool)} {args : List AV} {h : List Blk} {r : Res} (hr : (F_astrolabelaw1_same f args h).eval = some r) : ∃ x0 x1 x2 x3, args = [.r (.agg [.c (.f (.i .i64 x0)), .c (.f (.i .u64 x1))]), .r (.agg [.c (.f (.b x2)), .a (.l 8) [.i .u64 x3]])] ∧ h = [] ∧ (f x0 x1 x2 x3).bind (fun (d : Bool) => some (Res.mk (AV.r (RV.c (CV.f (FV.b d)))) [] [])) = some r := by
  unfold F_astrolabelaw1_same at hr
  split at hr
  · rename_i b hb
    have e := ((QA_astrolabelaw1_same).ok _ _ hb).trans (qa_astrolabelaw1_same b)
    rw [opt_eval2] at hr
    exact ⟨b.1.1.1, b.1.1.2.1, b.1.2.1.1, b.1.2.1.2.1.2.1, (Prod.mk.inj e).1, (Prod.mk.inj e).2, hr⟩
  · cases hr
theorem n_astrolabelaw1_same {σ : Type} (q : (Bool) → Option σ) (x0 : Int) (x1 : Int) (x2 : Bool) (x3 : Nat → Int) : (f_astrolabelaw1_same x0 x1 x2 x3).bind q = K_astrolabelaw1_same f_astrolabelaw1_big f_astrolaberef1_Cmp  x0 x1 x2 x3 q := by
  unfold f_astrolabelaw1_same
  exact m_astrolabelaw1_same q f_astrolabelaw1_big f_astrolaberef1_Cmp   x0 x1 x2 x3 some
theorem s_astrolabelaw1_same : Sound Try.prog 21 (F_astrolabelaw1_same f_astrolabelaw1_same) :=
  (inl_sound (l := [(26, F_astrolabelaw1_big f_astrolabelaw1_big), (30, F_astrolaberef1_Cmp f_astrolaberef1_Cmp)]) (.cons s_astrolabelaw1_big (.cons s_astrolaberef1_Cmp (.nil _))) mixed [] [] 300 (by kernel_rfl)).by (F := F_astrolabelaw1_same f_astrolabelaw1_same) fun args b r hr => by
  obtain ⟨x0, x1, x2, x3, rfl, rfl, hr1⟩ := e_astrolabelaw1_same hr
  exact inl_eval ((d_astrolabelaw1_same f_astrolabelaw1_big f_astrolaberef1_Cmp  x0 x1 x2 x3).trans ((n_astrolabelaw1_same (fun (d : Bool) => some (Res.mk (AV.r (RV.c (CV.f (FV.b d)))) [] [])) x0 x1 x2 x3).symm.trans hr1))

end Go.Proofs.Ytcalippagaaikaa
