/-
  Contracts by plain functions: tri.variance, tri.New, tri.place, tri.Set, tri.U, tri.At, tri.Diag, tri.Condition, tri.Good, tri.Most
-/
import Derived.Test.YtmlmpcabphgfaaaWD
set_option maxRecDepth 100000
set_option maxHeartbeats 4000000
set_option linter.unusedVariables false
namespace Go.Proofs.Ytmlmpcabphgfaaa
open Go.Ab
def K_tri_variance {ρ : Type} (g___fx_Acc__Clamp : Int → Int → Int → Bool → Option (Int × Bool))  (x0 : Int) (x1 : Bool) (k : (Int × Bool) → Option ρ) : Option ρ :=
  Option.bind (g___fx_Acc__Clamp x0 1 72057594037927936 x1) fun (d : Int × Bool) => k (d.fst, d.snd)
def f_tri_variance (x0 : Int) (x1 : Bool) : Option (Int × Bool) := K_tri_variance f___fx_Acc__Clamp  x0 x1 some
section
open Go.Ab.Rdr
def QA_tri_variance := ((pair (cons (ar (rc (cptr (nat 0) (ok' (nat 0)) (nat 1)))) (cons (ar (rc (cf (fi .i64 hole)))) nil)) (cons (cons (gc (cf (fb hole))) nil) nil)) : Rdr (List AV × List Blk) _)
end
def F_tri_variance (f : (Int) → (Bool) → Option (Int × Bool)) : Sem1 := fun args h => match (QA_tri_variance).rd (args, h) with
  | some b => .opt (f b.1.2.1 b.2.1.1) fun (d : Int × Bool) => .leaf (Res.mk (AV.r (RV.c (CV.f (FV.i IntKind.i64 d.fst)))) [Ch.set [Sg.c (CV.f (FV.b d.snd))]] [])
  | none => .fail
theorem d_tri_variance (g___fx_Acc__Clamp : Int → Int → Int → Bool → Option (Int × Bool))  (x0 : Int) (x1 : Bool) : den Try.prog (envOf [(64, F___fx_Acc__Clamp g___fx_Acc__Clamp)]) ⟨[], [], [], [], none⟩ 200 57 [.r (.c (.ptr 0 (.k 0) 1)), .r (.c (.f (.i .i64 x0)))] [[.c (.f (.b x1))]] =
    K_tri_variance g___fx_Acc__Clamp  x0 x1 (fun (d : Int × Bool) => some (Res.mk (AV.r (RV.c (CV.f (FV.i IntKind.i64 d.fst)))) [Ch.set [Sg.c (CV.f (FV.b d.snd))]] [])) := by kernel_rfl
theorem m_tri_variance {ρ σ : Type} (q : ρ → Option σ) (g___fx_Acc__Clamp : Int → Int → Int → Bool → Option (Int × Bool))   (x0 : Int) (x1 : Bool) (k : (Int × Bool) → Option ρ) : (K_tri_variance g___fx_Acc__Clamp  x0 x1 k).bind q = K_tri_variance g___fx_Acc__Clamp  x0 x1 (fun d => (k d).bind q) := by
  simp only [K_tri_variance, bnd_cond, bnd_bind, bnd_none, bnd_sum]
theorem qa_tri_variance : ∀ b, (QA_tri_variance).em b = ([.r (.c (.ptr 0 (.k 0) 1)), .r (.c (.f (.i .i64 b.1.2.1)))], [[.c (.f (.b b.2.1.1))]]) := fun b => by kernel_rfl
theorem e_tri_variance {f : (Int) → (Bool) → Option (Int × Bool)} {args : List AV} {h : List Blk} {r : Res} (hr : (F_tri_variance f args h).eval = some r) : ∃ x0 x1, args = [.r (.c (.ptr 0 (.k 0) 1)), .r (.c (.f (.i .i64 x0)))] ∧ h = [[.c (.f (.b x1))]] ∧ (f x0 x1).bind (fun (d : Int × Bool) => some (Res.mk (AV.r (RV.c (CV.f (FV.i IntKind.i64 d.fst)))) [Ch.set [Sg.c (CV.f (FV.b d.snd))]] [])) = some r := by
  unfold F_tri_variance at hr
  split at hr
  · rename_i b hb
    have e := ((QA_tri_variance).ok _ _ hb).trans (qa_tri_variance b)
    rw [opt_eval2] at hr
    exact ⟨b.1.2.1, b.2.1.1, (Prod.mk.inj e).1, (Prod.mk.inj e).2, hr⟩
  · cases hr
theorem n_tri_variance {σ : Type} (q : (Int × Bool) → Option σ) (x0 : Int) (x1 : Bool) : (f_tri_variance x0 x1).bind q = K_tri_variance f___fx_Acc__Clamp  x0 x1 q := by
  unfold f_tri_variance
  exact m_tri_variance q f___fx_Acc__Clamp   x0 x1 some
theorem s_tri_variance : Sound Try.prog 57 (F_tri_variance f_tri_variance) :=
  (inl_sound (l := [(64, F___fx_Acc__Clamp f___fx_Acc__Clamp)]) (.cons s___fx_Acc__Clamp (.nil _)) mixed [] [] 200 (by kernel_rfl)).by (F := F_tri_variance f_tri_variance) fun args b r hr => by
  obtain ⟨x0, x1, rfl, rfl, hr1⟩ := e_tri_variance hr
  exact inl_eval ((d_tri_variance f___fx_Acc__Clamp  x0 x1).trans ((n_tri_variance (fun (d : Int × Bool) => some (Res.mk (AV.r (RV.c (CV.f (FV.i IntKind.i64 d.fst)))) [Ch.set [Sg.c (CV.f (FV.b d.snd))]] [])) x0 x1).symm.trans hr1))

def S_tri_New_0 {ρ : Type} (g_tri_variance : Int → Bool → Option (Int × Bool))  (x0 : Nat) (x1 : Bool) (x2 : Int) (x3 : Bool) (x4 : Nat) (x5 : Nat → Int) (x6 : Nat → Int) (x7 : Nat → Int) (x8 : Nat → Int) (x9 : Nat → Int) (c : (Nat × Bool × Int × Bool × Nat × (Nat → Int) × (Nat → Int) × (Nat → Int) × (Nat → Int) × (Nat → Int)) → Option ρ) (x : (Nat × Bool × Int × Bool × Bool × Nat × (Nat → Int) × (Nat → Int) × (Nat → Int) × (Nat → Int) × (Nat → Int)) → Option ρ) : Option ρ :=
  bif decide (x2 < 24) then
    bif inR x2 24 then
      bif true && Nat.ble (276 + Int.toNat x2 * 1 + 1) 300 then
        bif decide (x2 < Int.ofNat x0) then
          bif inR x2 x0 then
            Option.bind (g_tri_variance (x5 (Int.toNat x2)) x3) fun (d : Int × Bool) =>
              bif inR x2 24 then
                bif true && Nat.ble (276 + Int.toNat x2 * 1 + 1) 300 then
                  c (x0, x1, IntKind.wrap IntKind.i64 (x2 + 1), d.snd, x4, x5, x6, x7, x8, fun (j : Nat) => bif Nat.beq j (Int.toNat x2) then d.fst else bif Nat.beq j (Int.toNat x2) then 1 else x9 j)
                else none
              else none
          else none
        else c (x0, x1, IntKind.wrap IntKind.i64 (x2 + 1), x3, x4, x5, x6, x7, x8, fun (j : Nat) => bif Nat.beq j (Int.toNat x2) then 1 else x9 j)
      else none
    else none
  else x (x0, x1, x2, decide (x2 < 24), x3, x4, x5, x6, x7, x8, x9)
section
open Go.Ab.Rdr
def Q_tri_New_0 := (st (cons (ar (rc (cptr (nat 0) (ok' (nat 0)) (nat 1)))) (cons (ar (rc (csl (nat 1) (ok' (nat 0)) (szs hole) (nat 1) hole))) (cons aund (cons aund (cons (ar (rc (cptr (nat 2) (ok' (nat 0)) (nat 300)))) (cons (ar (rc (cptr (nat 3) (ok' (nat 0)) (nat 300)))) (cons aund (cons (ar (rc (cf (fi .i64 hole)))) (cons aund (cons aund (cons aund (cons aund (cons aund (cons aund (cons aund (cons aund (cons aund (cons aund (cons aund (cons aund (cons aund (cons aund (cons aund (cons aund (cons aund (cons aund (cons aund (cons aund nil)))))))))))))))))))))))))))) (cons (some' (cons (gc (cf (fb hole))) nil)) (cons (some' (cons (ga (szs hole) (cons (ki .i64 hole) nil)) nil)) (cons (some' (cons (ga (szl (nat 276)) (cons (ki .i64 hole) nil)) (cons (ga (szl (nat 24)) (cons (ki .i64 hole) nil)) nil))) (cons (some' (cons (ga (szl (nat 276)) (cons (ki .i64 hole) nil)) (cons (ga (szl (nat 24)) (cons (ki .i64 hole) nil)) nil))) nil)))) (cons (nat 0) nil))
end
theorem q_tri_New_0 : ∀ b, (Q_tri_New_0).em b = St.mk
    [AV.r (RV.c (CV.ptr 0 (Off.k 0) 1)), AV.r (RV.c (CV.sl 1 (Off.k 0) (Sz.s b.1.2.1.2.2.1) 1 b.1.2.1.2.2.2.2)), AV.und, AV.und, AV.r (RV.c (CV.ptr 2 (Off.k 0) 300)), AV.r (RV.c (CV.ptr 3 (Off.k 0) 300)), AV.und,
      AV.r (RV.c (CV.f (FV.i IntKind.i64 b.1.2.2.2.2.2.2.2.1))), AV.und, AV.und, AV.und, AV.und, AV.und, AV.und, AV.und, AV.und, AV.und, AV.und, AV.und, AV.und, AV.und, AV.und, AV.und, AV.und, AV.und, AV.und, AV.und,
      AV.und]
    [some [Sg.c (CV.f (FV.b b.2.1.1.1))], some [Sg.a (Sz.s b.2.1.2.1.1.1) [Col.i IntKind.i64 b.2.1.2.1.1.2.1]], some [Sg.a (Sz.l 276) [Col.i IntKind.i64 b.2.1.2.2.1.1.2.1], Sg.a (Sz.l 24) [Col.i IntKind.i64 b.2.1.2.2.1.2.1.2.1]],
      some [Sg.a (Sz.l 276) [Col.i IntKind.i64 b.2.1.2.2.2.1.1.2.1], Sg.a (Sz.l 24) [Col.i IntKind.i64 b.2.1.2.2.2.1.2.1.2.1]]]
    [0] := fun b => by kernel_rfl
def R_tri_New_0 (l : ∀ {ρ : Type}, (Nat × Bool × Int × Bool × Nat × (Nat → Int) × (Nat → Int) × (Nat → Int) × (Nat → Int) × (Nat → Int)) → ((Nat × Bool × Int × Bool × Bool × Nat × (Nat → Int) × (Nat → Int) × (Nat → Int) × (Nat → Int) × (Nat → Int)) → Option ρ) → Option ρ) {ρ : Type} (s : St) (K : AX → St → Option ρ) : Option ρ := ((Q_tri_New_0).rd s).bind fun b => l (b.1.2.1.2.2.1, b.1.2.1.2.2.2.2, b.1.2.2.2.2.2.2.2.1, b.2.1.1.1, b.2.1.2.1.1.1, b.2.1.2.1.1.2.1, b.2.1.2.2.1.1.2.1, b.2.1.2.2.1.2.1.2.1, b.2.1.2.2.2.1.1.2.1, b.2.1.2.2.2.1.2.1.2.1) (fun d => K (AX.ex 0) (St.mk
  [AV.r (RV.c (CV.ptr 0 (Off.k 0) 1)), AV.r (RV.c (CV.sl 1 (Off.k 0) (Sz.s d.fst) 1 d.snd.fst)), AV.und, AV.und, AV.r (RV.c (CV.ptr 2 (Off.k 0) 300)), AV.r (RV.c (CV.ptr 3 (Off.k 0) 300)), AV.und,
    AV.r (RV.c (CV.f (FV.i IntKind.i64 d.snd.snd.fst))), AV.r (RV.c (CV.f (FV.b d.snd.snd.snd.fst))), AV.und, AV.und, AV.und, AV.und, AV.und, AV.und, AV.und, AV.und, AV.und, AV.und, AV.und, AV.und,
    AV.und, AV.und, AV.und, AV.und, AV.und, AV.und, AV.und]
  [some [Sg.c (CV.f (FV.b d.snd.snd.snd.snd.fst))], some [Sg.a (Sz.s d.snd.snd.snd.snd.snd.fst) [Col.i IntKind.i64 d.snd.snd.snd.snd.snd.snd.fst]],
    some [Sg.a (Sz.l 276) [Col.i IntKind.i64 d.snd.snd.snd.snd.snd.snd.snd.fst], Sg.a (Sz.l 24) [Col.i IntKind.i64 d.snd.snd.snd.snd.snd.snd.snd.snd.fst]],
    some [Sg.a (Sz.l 276) [Col.i IntKind.i64 d.snd.snd.snd.snd.snd.snd.snd.snd.snd.fst], Sg.a (Sz.l 24) [Col.i IntKind.i64 d.snd.snd.snd.snd.snd.snd.snd.snd.snd.snd]]]
  [0]))
theorem ms_tri_New_0 {ρ σ : Type} (g_tri_variance : Int → Bool → Option (Int × Bool))   (q : ρ → Option σ) (x0 : Nat) (x1 : Bool) (x2 : Int) (x3 : Bool) (x4 : Nat) (x5 : Nat → Int) (x6 : Nat → Int) (x7 : Nat → Int) (x8 : Nat → Int) (x9 : Nat → Int) (c : (Nat × Bool × Int × Bool × Nat × (Nat → Int) × (Nat → Int) × (Nat → Int) × (Nat → Int) × (Nat → Int)) → Option ρ) (x : (Nat × Bool × Int × Bool × Bool × Nat × (Nat → Int) × (Nat → Int) × (Nat → Int) × (Nat → Int) × (Nat → Int)) → Option ρ) : (S_tri_New_0 g_tri_variance  x0 x1 x2 x3 x4 x5 x6 x7 x8 x9 c x).bind q = S_tri_New_0 g_tri_variance  x0 x1 x2 x3 x4 x5 x6 x7 x8 x9 (fun d => (c d).bind q) (fun d => (x d).bind q) := by
  simp only [S_tri_New_0, bnd_cond, bnd_bind, bnd_none, bnd_sum]
def L_tri_New_0 {ρ : Type} (d : Nat × Bool × Int × Bool × Nat × (Nat → Int) × (Nat → Int) × (Nat → Int) × (Nat → Int) × (Nat → Int)) (k : (Nat × Bool × Int × Bool × Bool × Nat × (Nat → Int) × (Nat → Int) × (Nat → Int) × (Nat → Int) × (Nat → Int)) → Option ρ) : Option ρ := loopK (fun d c x => S_tri_New_0 f_tri_variance  d.1 d.2.1 d.2.2.1 d.2.2.2.1 d.2.2.2.2.1 d.2.2.2.2.2.1 d.2.2.2.2.2.2.1 d.2.2.2.2.2.2.2.1 d.2.2.2.2.2.2.2.2.1 d.2.2.2.2.2.2.2.2.2 c x) 200 d k
theorem mL_tri_New_0 {ρ σ : Type} (q : ρ → Option σ) (d : Nat × Bool × Int × Bool × Nat × (Nat → Int) × (Nat → Int) × (Nat → Int) × (Nat → Int) × (Nat → Int)) (k : (Nat × Bool × Int × Bool × Bool × Nat × (Nat → Int) × (Nat → Int) × (Nat → Int) × (Nat → Int) × (Nat → Int)) → Option ρ) : (L_tri_New_0 d k).bind q = L_tri_New_0 d fun x => (k x).bind q :=
  loopK_bind q (fun d c x => ms_tri_New_0 f_tri_variance   q d.1 d.2.1 d.2.2.1 d.2.2.2.1 d.2.2.2.2.1 d.2.2.2.2.2.1 d.2.2.2.2.2.2.1 d.2.2.2.2.2.2.2.1 d.2.2.2.2.2.2.2.2.1 d.2.2.2.2.2.2.2.2.2 c x) k _ d
theorem ds_tri_New_0 {ρ : Type} (g_tri_variance : Int → Bool → Option (Int × Bool)) (l_0 : ∀ {ρ : Type}, (Nat × Bool × Int × Bool × Nat × (Nat → Int) × (Nat → Int) × (Nat → Int) × (Nat → Int) × (Nat → Int)) → ((Nat × Bool × Int × Bool × Bool × Nat × (Nat → Int) × (Nat → Int) × (Nat → Int) × (Nat → Int) × (Nat → Int)) → Option ρ) → Option ρ) (x0 : Nat) (x1 : Bool) (x2 : Int) (x3 : Bool) (x4 : Nat) (x5 : Nat → Int) (x6 : Nat → Int) (x7 : Nat → Int) (x8 : Nat → Int) (x9 : Nat → Int) (c : St → Option ρ) (K : AX → St → Option ρ) :
    runC Try.prog (envOf [(57, F_tri_variance g_tri_variance)]) ⟨[⟨3, [2, 3, 6, 8, 9, 10, 11, 12, 13, 14, 15, 16, 17, 18, 19, 20, 21, 22, 23, 24, 25, 26, 27], []⟩], [⟨3, 2, @R_tri_New_0 (@l_0)⟩], [0], [], none⟩ (tmpsOf Try.prog 40) 2 200 (loopIn Try.prog 40 3)
      (St.mk
    [AV.r (RV.c (CV.ptr 0 (Off.k 0) 1)), AV.r (RV.c (CV.sl 1 (Off.k 0) (Sz.s x0) 1 x1)), AV.und, AV.und, AV.r (RV.c (CV.ptr 2 (Off.k 0) 300)), AV.r (RV.c (CV.ptr 3 (Off.k 0) 300)), AV.und,
      AV.r (RV.c (CV.f (FV.i IntKind.i64 x2))), AV.und, AV.und, AV.und, AV.und, AV.und, AV.und, AV.und, AV.und, AV.und, AV.und, AV.und, AV.und, AV.und, AV.und, AV.und, AV.und, AV.und, AV.und, AV.und,
      AV.und]
    [some [Sg.c (CV.f (FV.b x3))], some [Sg.a (Sz.s x4) [Col.i IntKind.i64 x5]], some [Sg.a (Sz.l 276) [Col.i IntKind.i64 x6], Sg.a (Sz.l 24) [Col.i IntKind.i64 x7]],
      some [Sg.a (Sz.l 276) [Col.i IntKind.i64 x8], Sg.a (Sz.l 24) [Col.i IntKind.i64 x9]]]
    [0])
      (next (fun t => t.head 2 ⟨[⟨3, [2, 3, 6, 8, 9, 10, 11, 12, 13, 14, 15, 16, 17, 18, 19, 20, 21, 22, 23, 24, 25, 26, 27], []⟩], [⟨3, 2, @R_tri_New_0 (@l_0)⟩], [0], [], none⟩ (loopIn Try.prog 40 3)) c K) =
    S_tri_New_0 g_tri_variance  x0 x1 x2 x3 x4 x5 x6 x7 x8 x9 (fun d => c (St.mk
  [AV.r (RV.c (CV.ptr 0 (Off.k 0) 1)), AV.r (RV.c (CV.sl 1 (Off.k 0) (Sz.s d.fst) 1 d.snd.fst)), AV.und, AV.und, AV.r (RV.c (CV.ptr 2 (Off.k 0) 300)), AV.r (RV.c (CV.ptr 3 (Off.k 0) 300)), AV.und,
    AV.r (RV.c (CV.f (FV.i IntKind.i64 d.snd.snd.fst))), AV.und, AV.und, AV.und, AV.und, AV.und, AV.und, AV.und, AV.und, AV.und, AV.und, AV.und, AV.und, AV.und, AV.und, AV.und, AV.und, AV.und, AV.und,
    AV.und, AV.und]
  [some [Sg.c (CV.f (FV.b d.snd.snd.snd.fst))], some [Sg.a (Sz.s d.snd.snd.snd.snd.fst) [Col.i IntKind.i64 d.snd.snd.snd.snd.snd.fst]],
    some [Sg.a (Sz.l 276) [Col.i IntKind.i64 d.snd.snd.snd.snd.snd.snd.fst], Sg.a (Sz.l 24) [Col.i IntKind.i64 d.snd.snd.snd.snd.snd.snd.snd.fst]],
    some [Sg.a (Sz.l 276) [Col.i IntKind.i64 d.snd.snd.snd.snd.snd.snd.snd.snd.fst], Sg.a (Sz.l 24) [Col.i IntKind.i64 d.snd.snd.snd.snd.snd.snd.snd.snd.snd]]]
  [0])) (fun d => K (AX.ex 0) (St.mk
  [AV.r (RV.c (CV.ptr 0 (Off.k 0) 1)), AV.r (RV.c (CV.sl 1 (Off.k 0) (Sz.s d.fst) 1 d.snd.fst)), AV.und, AV.und, AV.r (RV.c (CV.ptr 2 (Off.k 0) 300)), AV.r (RV.c (CV.ptr 3 (Off.k 0) 300)), AV.und,
    AV.r (RV.c (CV.f (FV.i IntKind.i64 d.snd.snd.fst))), AV.r (RV.c (CV.f (FV.b d.snd.snd.snd.fst))), AV.und, AV.und, AV.und, AV.und, AV.und, AV.und, AV.und, AV.und, AV.und, AV.und, AV.und, AV.und,
    AV.und, AV.und, AV.und, AV.und, AV.und, AV.und, AV.und]
  [some [Sg.c (CV.f (FV.b d.snd.snd.snd.snd.fst))], some [Sg.a (Sz.s d.snd.snd.snd.snd.snd.fst) [Col.i IntKind.i64 d.snd.snd.snd.snd.snd.snd.fst]],
    some [Sg.a (Sz.l 276) [Col.i IntKind.i64 d.snd.snd.snd.snd.snd.snd.snd.fst], Sg.a (Sz.l 24) [Col.i IntKind.i64 d.snd.snd.snd.snd.snd.snd.snd.snd.fst]],
    some [Sg.a (Sz.l 276) [Col.i IntKind.i64 d.snd.snd.snd.snd.snd.snd.snd.snd.snd.fst], Sg.a (Sz.l 24) [Col.i IntKind.i64 d.snd.snd.snd.snd.snd.snd.snd.snd.snd.snd]]]
  [0])) := by kernel_rfl
theorem it_tri_New_0 {ρ : Type} (x0 : Nat) (x1 : Bool) (x2 : Int) (x3 : Bool) (x4 : Nat) (x5 : Nat → Int) (x6 : Nat → Int) (x7 : Nat → Int) (x8 : Nat → Int) (x9 : Nat → Int) (K : AX → St → Option ρ) :
    iter (fun t => t.head 2 ⟨[⟨3, [2, 3, 6, 8, 9, 10, 11, 12, 13, 14, 15, 16, 17, 18, 19, 20, 21, 22, 23, 24, 25, 26, 27], []⟩], [⟨3, 2, @R_tri_New_0 (@L_tri_New_0)⟩], [0], [], none⟩ (loopIn Try.prog 40 3)) (runC Try.prog (envOf [(57, F_tri_variance f_tri_variance)]) ⟨[⟨3, [2, 3, 6, 8, 9, 10, 11, 12, 13, 14, 15, 16, 17, 18, 19, 20, 21, 22, 23, 24, 25, 26, 27], []⟩], [⟨3, 2, @R_tri_New_0 (@L_tri_New_0)⟩], [0], [], none⟩ (tmpsOf Try.prog 40) 2 200 (loopIn Try.prog 40 3)) K 200
      (St.mk
    [AV.r (RV.c (CV.ptr 0 (Off.k 0) 1)), AV.r (RV.c (CV.sl 1 (Off.k 0) (Sz.s x0) 1 x1)), AV.und, AV.und, AV.r (RV.c (CV.ptr 2 (Off.k 0) 300)), AV.r (RV.c (CV.ptr 3 (Off.k 0) 300)), AV.und,
      AV.r (RV.c (CV.f (FV.i IntKind.i64 x2))), AV.und, AV.und, AV.und, AV.und, AV.und, AV.und, AV.und, AV.und, AV.und, AV.und, AV.und, AV.und, AV.und, AV.und, AV.und, AV.und, AV.und, AV.und, AV.und,
      AV.und]
    [some [Sg.c (CV.f (FV.b x3))], some [Sg.a (Sz.s x4) [Col.i IntKind.i64 x5]], some [Sg.a (Sz.l 276) [Col.i IntKind.i64 x6], Sg.a (Sz.l 24) [Col.i IntKind.i64 x7]],
      some [Sg.a (Sz.l 276) [Col.i IntKind.i64 x8], Sg.a (Sz.l 24) [Col.i IntKind.i64 x9]]]
    [0]) = L_tri_New_0 (x0, x1, x2, x3, x4, x5, x6, x7, x8, x9) (fun d => K (AX.ex 0) (St.mk
  [AV.r (RV.c (CV.ptr 0 (Off.k 0) 1)), AV.r (RV.c (CV.sl 1 (Off.k 0) (Sz.s d.fst) 1 d.snd.fst)), AV.und, AV.und, AV.r (RV.c (CV.ptr 2 (Off.k 0) 300)), AV.r (RV.c (CV.ptr 3 (Off.k 0) 300)), AV.und,
    AV.r (RV.c (CV.f (FV.i IntKind.i64 d.snd.snd.fst))), AV.r (RV.c (CV.f (FV.b d.snd.snd.snd.fst))), AV.und, AV.und, AV.und, AV.und, AV.und, AV.und, AV.und, AV.und, AV.und, AV.und, AV.und, AV.und,
    AV.und, AV.und, AV.und, AV.und, AV.und, AV.und, AV.und]
  [some [Sg.c (CV.f (FV.b d.snd.snd.snd.snd.fst))], some [Sg.a (Sz.s d.snd.snd.snd.snd.snd.fst) [Col.i IntKind.i64 d.snd.snd.snd.snd.snd.snd.fst]],
    some [Sg.a (Sz.l 276) [Col.i IntKind.i64 d.snd.snd.snd.snd.snd.snd.snd.fst], Sg.a (Sz.l 24) [Col.i IntKind.i64 d.snd.snd.snd.snd.snd.snd.snd.snd.fst]],
    some [Sg.a (Sz.l 276) [Col.i IntKind.i64 d.snd.snd.snd.snd.snd.snd.snd.snd.snd.fst], Sg.a (Sz.l 24) [Col.i IntKind.i64 d.snd.snd.snd.snd.snd.snd.snd.snd.snd.snd]]]
  [0])) :=
  iter_loopX (emb := fun (d : Nat × Bool × Int × Bool × Nat × (Nat → Int) × (Nat → Int) × (Nat → Int) × (Nat → Int) × (Nat → Int)) => St.mk
  [AV.r (RV.c (CV.ptr 0 (Off.k 0) 1)), AV.r (RV.c (CV.sl 1 (Off.k 0) (Sz.s d.fst) 1 d.snd.fst)), AV.und, AV.und, AV.r (RV.c (CV.ptr 2 (Off.k 0) 300)), AV.r (RV.c (CV.ptr 3 (Off.k 0) 300)), AV.und,
    AV.r (RV.c (CV.f (FV.i IntKind.i64 d.snd.snd.fst))), AV.und, AV.und, AV.und, AV.und, AV.und, AV.und, AV.und, AV.und, AV.und, AV.und, AV.und, AV.und, AV.und, AV.und, AV.und, AV.und, AV.und, AV.und,
    AV.und, AV.und]
  [some [Sg.c (CV.f (FV.b d.snd.snd.snd.fst))], some [Sg.a (Sz.s d.snd.snd.snd.snd.fst) [Col.i IntKind.i64 d.snd.snd.snd.snd.snd.fst]],
    some [Sg.a (Sz.l 276) [Col.i IntKind.i64 d.snd.snd.snd.snd.snd.snd.fst], Sg.a (Sz.l 24) [Col.i IntKind.i64 d.snd.snd.snd.snd.snd.snd.snd.fst]],
    some [Sg.a (Sz.l 276) [Col.i IntKind.i64 d.snd.snd.snd.snd.snd.snd.snd.snd.fst], Sg.a (Sz.l 24) [Col.i IntKind.i64 d.snd.snd.snd.snd.snd.snd.snd.snd.snd]]]
  [0]) (step := fun d c x => S_tri_New_0 f_tri_variance  d.1 d.2.1 d.2.2.1 d.2.2.2.1 d.2.2.2.2.1 d.2.2.2.2.2.1 d.2.2.2.2.2.2.1 d.2.2.2.2.2.2.2.1 d.2.2.2.2.2.2.2.2.1 d.2.2.2.2.2.2.2.2.2 c x) (kx := (fun d => K (AX.ex 0) (St.mk
  [AV.r (RV.c (CV.ptr 0 (Off.k 0) 1)), AV.r (RV.c (CV.sl 1 (Off.k 0) (Sz.s d.fst) 1 d.snd.fst)), AV.und, AV.und, AV.r (RV.c (CV.ptr 2 (Off.k 0) 300)), AV.r (RV.c (CV.ptr 3 (Off.k 0) 300)), AV.und,
    AV.r (RV.c (CV.f (FV.i IntKind.i64 d.snd.snd.fst))), AV.r (RV.c (CV.f (FV.b d.snd.snd.snd.fst))), AV.und, AV.und, AV.und, AV.und, AV.und, AV.und, AV.und, AV.und, AV.und, AV.und, AV.und, AV.und,
    AV.und, AV.und, AV.und, AV.und, AV.und, AV.und, AV.und]
  [some [Sg.c (CV.f (FV.b d.snd.snd.snd.snd.fst))], some [Sg.a (Sz.s d.snd.snd.snd.snd.snd.fst) [Col.i IntKind.i64 d.snd.snd.snd.snd.snd.snd.fst]],
    some [Sg.a (Sz.l 276) [Col.i IntKind.i64 d.snd.snd.snd.snd.snd.snd.snd.fst], Sg.a (Sz.l 24) [Col.i IntKind.i64 d.snd.snd.snd.snd.snd.snd.snd.snd.fst]],
    some [Sg.a (Sz.l 276) [Col.i IntKind.i64 d.snd.snd.snd.snd.snd.snd.snd.snd.snd.fst], Sg.a (Sz.l 24) [Col.i IntKind.i64 d.snd.snd.snd.snd.snd.snd.snd.snd.snd.snd]]]
  [0])))
    (fun d c => ds_tri_New_0 f_tri_variance (@L_tri_New_0) d.1 d.2.1 d.2.2.1 d.2.2.2.1 d.2.2.2.2.1 d.2.2.2.2.2.1 d.2.2.2.2.2.2.1 d.2.2.2.2.2.2.2.1 d.2.2.2.2.2.2.2.2.1 d.2.2.2.2.2.2.2.2.2 c K) 200 (x0, x1, x2, x3, x4, x5, x6, x7, x8, x9)
theorem so_tri_New_0 : ∀ kk, SumOK Try.prog (envOf [(57, F_tri_variance f_tri_variance)]) ⟨[⟨3, [2, 3, 6, 8, 9, 10, 11, 12, 13, 14, 15, 16, 17, 18, 19, 20, 21, 22, 23, 24, 25, 26, 27], []⟩], [⟨3, 2, @R_tri_New_0 (@L_tri_New_0)⟩], [0], [], none⟩ (tmpsOf Try.prog 40) kk 200 (loopIn Try.prog 40 3) :=
  SumOK.of (id := 3) (k0 := 2) (run := @R_tri_New_0 (@L_tri_New_0)) (by kernel_rfl) fun s K r hr => by
    unfold R_tri_New_0 at hr
    obtain ⟨b, hb, hr1⟩ := Option.bind_eq_some_iff.1 hr
    have e := ((Q_tri_New_0).ok s b hb).trans (q_tri_New_0 b)
    subst e
    exact ⟨200, (it_tri_New_0 b.1.2.1.2.2.1 b.1.2.1.2.2.2.2 b.1.2.2.2.2.2.2.2.1 b.2.1.1.1 b.2.1.2.1.1.1 b.2.1.2.1.1.2.1 b.2.1.2.2.1.1.2.1 b.2.1.2.2.1.2.1.2.1 b.2.1.2.2.2.1.1.2.1 b.2.1.2.2.2.1.2.1.2.1 K).trans hr1⟩
def K_tri_New {ρ : Type} (g_tri_variance : Int → Bool → Option (Int × Bool)) (l_0 : ∀ {ρ : Type}, (Nat × Bool × Int × Bool × Nat × (Nat → Int) × (Nat → Int) × (Nat → Int) × (Nat → Int) × (Nat → Int)) → ((Nat × Bool × Int × Bool × Bool × Nat × (Nat → Int) × (Nat → Int) × (Nat → Int) × (Nat → Int) × (Nat → Int)) → Option ρ) → Option ρ) (x0 : Nat) (x1 : Bool) (x2 : Nat → Int) (w0 : Bool) (k : ((Nat → Int) × (Nat → Int) × Bool) → Option ρ) : Option ρ :=
  l_0 (x0, w0, 0, x1, x0, x2, fun (x : Nat) => 0, fun (x : Nat) => 0, fun (x : Nat) => 0, fun (x : Nat) => 0)
    fun (d : Nat × Bool × Int × Bool × Bool × Nat × (Nat → Int) × (Nat → Int) × (Nat → Int) × (Nat → Int) × (Nat → Int)) =>
    k (d.snd.snd.snd.snd.snd.snd.snd.snd.snd.1, d.snd.snd.snd.snd.snd.snd.snd.snd.snd.2, d.snd.snd.snd.snd.fst)
def f_tri_New (x0 : Nat) (x1 : Bool) (x2 : Nat → Int) (w0 : Bool) : Option ((Nat → Int) × (Nat → Int) × Bool) := K_tri_New f_tri_variance (@L_tri_New_0) x0 x1 x2 w0 some
section
open Go.Ab.Rdr
def QA_tri_New := ((pair (cons (ar (rc (cptr (nat 0) (ok' (nat 0)) (nat 1)))) (cons (ar (rc (csl (nat 1) (ok' (nat 0)) (szs hole) (nat 1) hole))) nil)) (cons (cons (gc (cf (fb hole))) nil) (cons (cons (ga (szs hole) (cons (ki .i64 hole) nil)) nil) nil))) : Rdr (List AV × List Blk) _)
end
def F0_tri_New (f : (Nat) → (Bool) → (Nat → Int) → (Bool) → Option ((Nat → Int) × (Nat → Int) × Bool)) : Sem1 := fun args h => match (QA_tri_New).rd (args, h) with
  | some b => .test (Nat.beq b.2.2.1.1.1 b.1.2.1.2.2.1) (.opt (f b.1.2.1.2.2.1 b.2.1.1 b.2.2.1.1.2.1 b.1.2.1.2.2.2.2) fun (d : (Nat → Int) × (Nat → Int) × Bool) => .leaf (Res.mk (AV.r (RV.agg [Sg.a (Sz.l 276) [Col.i IntKind.i64 d.fst], Sg.a (Sz.l 24) [Col.i IntKind.i64 d.snd.fst]])) [Ch.set [Sg.c (CV.f (FV.b d.snd.snd))], Ch.keep] [])) .fail
  | none => .fail
def F_tri_New (f : (Nat) → (Bool) → (Nat → Int) → (Bool) → Option ((Nat → Int) × (Nat → Int) × Bool)) : Sem1 := (nilF 1 [.i .i64] (F0_tri_New f))
theorem d_tri_New (g_tri_variance : Int → Bool → Option (Int × Bool)) (l_0 : ∀ {ρ : Type}, (Nat × Bool × Int × Bool × Nat × (Nat → Int) × (Nat → Int) × (Nat → Int) × (Nat → Int) × (Nat → Int)) → ((Nat × Bool × Int × Bool × Bool × Nat × (Nat → Int) × (Nat → Int) × (Nat → Int) × (Nat → Int) × (Nat → Int)) → Option ρ) → Option ρ) (x0 : Nat) (x1 : Bool) (x2 : Nat → Int) (w0 : Bool) : den Try.prog (envOf [(57, F_tri_variance g_tri_variance)]) ⟨[⟨3, [2, 3, 6, 8, 9, 10, 11, 12, 13, 14, 15, 16, 17, 18, 19, 20, 21, 22, 23, 24, 25, 26, 27], []⟩], [⟨3, 2, @R_tri_New_0 (@l_0)⟩], [0], [], none⟩ 200 40 [.r (.c (.ptr 0 (.k 0) 1)), .r (.c (.sl 1 (.k 0) (.s x0) 1 w0))] [[.c (.f (.b x1))], [.a (.s x0) [.i .i64 x2]]] =
    K_tri_New g_tri_variance (@l_0) x0 x1 x2 w0 (fun (d : (Nat → Int) × (Nat → Int) × Bool) => some (Res.mk (AV.r (RV.agg [Sg.a (Sz.l 276) [Col.i IntKind.i64 d.fst], Sg.a (Sz.l 24) [Col.i IntKind.i64 d.snd.fst]])) [Ch.set [Sg.c (CV.f (FV.b d.snd.snd))], Ch.keep] [])) := by kernel_rfl
theorem m_tri_New {ρ σ : Type} (q : ρ → Option σ) (g_tri_variance : Int → Bool → Option (Int × Bool)) (l_0 : ∀ {ρ : Type}, (Nat × Bool × Int × Bool × Nat × (Nat → Int) × (Nat → Int) × (Nat → Int) × (Nat → Int) × (Nat → Int)) → ((Nat × Bool × Int × Bool × Bool × Nat × (Nat → Int) × (Nat → Int) × (Nat → Int) × (Nat → Int) × (Nat → Int)) → Option ρ) → Option ρ) (hl_0 : ∀ {ρ σ : Type} (q : ρ → Option σ) (d : Nat × Bool × Int × Bool × Nat × (Nat → Int) × (Nat → Int) × (Nat → Int) × (Nat → Int) × (Nat → Int)) (k : (Nat × Bool × Int × Bool × Bool × Nat × (Nat → Int) × (Nat → Int) × (Nat → Int) × (Nat → Int) × (Nat → Int)) → Option ρ), (l_0 d k).bind q = l_0 d fun x => (k x).bind q) (x0 : Nat) (x1 : Bool) (x2 : Nat → Int) (w0 : Bool) (k : ((Nat → Int) × (Nat → Int) × Bool) → Option ρ) : (K_tri_New g_tri_variance (@l_0) x0 x1 x2 w0 k).bind q = K_tri_New g_tri_variance (@l_0) x0 x1 x2 w0 (fun d => (k d).bind q) := by
  simp only [K_tri_New, bnd_cond, bnd_bind, bnd_none, bnd_sum, hl_0]
theorem qa_tri_New : ∀ b, (QA_tri_New).em b = ([.r (.c (.ptr 0 (.k 0) 1)), .r (.c (.sl 1 (.k 0) (.s b.1.2.1.2.2.1) 1 b.1.2.1.2.2.2.2))], [[.c (.f (.b b.2.1.1))], [.a (.s b.2.2.1.1.1) [.i .i64 b.2.2.1.1.2.1]]]) := fun b => by kernel_rfl
theorem e_tri_New {f : (Nat) → (Bool) → (Nat → Int) → (Bool) → Option ((Nat → Int) × (Nat → Int) × Bool)} {args : List AV} {h : List Blk} {r : Res} (hr : (F0_tri_New f args h).eval = some r) : ∃ x0 x1 x2 w0, args = [.r (.c (.ptr 0 (.k 0) 1)), .r (.c (.sl 1 (.k 0) (.s x0) 1 w0))] ∧ h = [[.c (.f (.b x1))], [.a (.s x0) [.i .i64 x2]]] ∧ (f x0 x1 x2 w0).bind (fun (d : (Nat → Int) × (Nat → Int) × Bool) => some (Res.mk (AV.r (RV.agg [Sg.a (Sz.l 276) [Col.i IntKind.i64 d.fst], Sg.a (Sz.l 24) [Col.i IntKind.i64 d.snd.fst]])) [Ch.set [Sg.c (CV.f (FV.b d.snd.snd))], Ch.keep] [])) = some r := by
  unfold F0_tri_New at hr
  split at hr
  · rename_i b hb
    have e := ((QA_tri_New).ok _ _ hb).trans (qa_tri_New b)
    obtain ⟨he, hr1⟩ := test_eval hr
    clear hr
    have hr := hr1
    clear hr1
    rw [Nat.eq_of_beq_eq_true he] at e
    clear he
    rw [opt_eval2] at hr
    exact ⟨b.1.2.1.2.2.1, b.2.1.1, b.2.2.1.1.2.1, b.1.2.1.2.2.2.2, (Prod.mk.inj e).1, (Prod.mk.inj e).2, hr⟩
  · cases hr
theorem n_tri_New {σ : Type} (q : ((Nat → Int) × (Nat → Int) × Bool) → Option σ) (x0 : Nat) (x1 : Bool) (x2 : Nat → Int) (w0 : Bool) : (f_tri_New x0 x1 x2 w0).bind q = K_tri_New f_tri_variance (@L_tri_New_0) x0 x1 x2 w0 q := by
  unfold f_tri_New
  exact m_tri_New q f_tri_variance (@L_tri_New_0) (fun q d k => mL_tri_New_0 q d k) x0 x1 x2 w0 some
theorem s_tri_New : Sound Try.prog 40 (F_tri_New f_tri_New) :=
  Sound.nil 1 [.i .i64] <| (inl_sums (l := [(57, F_tri_variance f_tri_variance)]) (.cons s_tri_variance (.nil _)) mixed (hs := ⟨[⟨3, [2, 3, 6, 8, 9, 10, 11, 12, 13, 14, 15, 16, 17, 18, 19, 20, 21, 22, 23, 24, 25, 26, 27], []⟩], [⟨3, 2, @R_tri_New_0 (@L_tri_New_0)⟩], [0], [], none⟩) (lf := 200) (Sums.by (l := [loopIn Try.prog 40 3]) (lj := []) (by kernel_rfl) ⟨so_tri_New_0, trivial⟩ (by kernel_rfl) trivial) (by kernel_rfl)).by (F := F0_tri_New f_tri_New) fun args b r hr => by
  obtain ⟨x0, x1, x2, w0, rfl, rfl, hr1⟩ := e_tri_New hr
  exact inl_eval ((d_tri_New f_tri_variance (@L_tri_New_0) x0 x1 x2 w0).trans ((n_tri_New (fun (d : (Nat → Int) × (Nat → Int) × Bool) => some (Res.mk (AV.r (RV.agg [Sg.a (Sz.l 276) [Col.i IntKind.i64 d.fst], Sg.a (Sz.l 24) [Col.i IntKind.i64 d.snd.fst]])) [Ch.set [Sg.c (CV.f (FV.b d.snd.snd))], Ch.keep] [])) x0 x1 x2 w0).symm.trans hr1))

def K_tri_place {ρ : Type}   (x0 : Int) (x1 : Int) (k : (Int × Bool) → Option ρ) : Option ρ :=
  bif decide (x0 ≥ 0) then
    bif decide (x0 < x1) then k (IntKind.wrap IntKind.i64 (IntKind.wrap IntKind.i64 (Int.tdiv (IntKind.wrap IntKind.i64 (x1 * IntKind.wrap IntKind.i64 (x1 - 1))) 2) + x0), decide (x1 < 24))
    else k (IntKind.wrap IntKind.i64 (IntKind.wrap IntKind.i64 (Int.tdiv (IntKind.wrap IntKind.i64 (x1 * IntKind.wrap IntKind.i64 (x1 - 1))) 2) + x0), false)
  else k (IntKind.wrap IntKind.i64 (IntKind.wrap IntKind.i64 (Int.tdiv (IntKind.wrap IntKind.i64 (x1 * IntKind.wrap IntKind.i64 (x1 - 1))) 2) + x0), false)
def f_tri_place (x0 : Int) (x1 : Int) : Option (Int × Bool) := K_tri_place   x0 x1 some
section
open Go.Ab.Rdr
def QA_tri_place := ((pair (cons (ar (rc (cf (fi .i64 hole)))) (cons (ar (rc (cf (fi .i64 hole)))) nil)) nil) : Rdr (List AV × List Blk) _)
end
def F_tri_place (f : (Int) → (Int) → Option (Int × Bool)) : Sem1 := fun args h => match (QA_tri_place).rd (args, h) with
  | some b => .opt (f b.1.1 b.1.2.1) fun (d : Int × Bool) => .leaf (Res.mk (AV.tup [RV.c (CV.f (FV.i IntKind.i64 d.fst)), RV.c (CV.f (FV.b d.snd))]) [] [])
  | none => .fail
theorem d_tri_place   (x0 : Int) (x1 : Int) : den Try.prog (envOf []) ⟨[], [], [], [], none⟩ 200 58 [.r (.c (.f (.i .i64 x0))), .r (.c (.f (.i .i64 x1)))] [] =
    K_tri_place   x0 x1 (fun (d : Int × Bool) => some (Res.mk (AV.tup [RV.c (CV.f (FV.i IntKind.i64 d.fst)), RV.c (CV.f (FV.b d.snd))]) [] [])) := by kernel_rfl
theorem m_tri_place {ρ σ : Type} (q : ρ → Option σ)    (x0 : Int) (x1 : Int) (k : (Int × Bool) → Option ρ) : (K_tri_place   x0 x1 k).bind q = K_tri_place   x0 x1 (fun d => (k d).bind q) := by
  simp only [K_tri_place, bnd_cond, bnd_bind, bnd_none, bnd_sum]
theorem qa_tri_place : ∀ b, (QA_tri_place).em b = ([.r (.c (.f (.i .i64 b.1.1))), .r (.c (.f (.i .i64 b.1.2.1)))], []) := fun b => by kernel_rfl
theorem e_tri_place {f : (Int) → (Int) → Option (Int × Bool)} {args : List AV} {h : List Blk} {r : Res} (hr : (F_tri_place f args h).eval = some r) : ∃ x0 x1, args = [.r (.c (.f (.i .i64 x0))), .r (.c (.f (.i .i64 x1)))] ∧ h = [] ∧ (f x0 x1).bind (fun (d : Int × Bool) => some (Res.mk (AV.tup [RV.c (CV.f (FV.i IntKind.i64 d.fst)), RV.c (CV.f (FV.b d.snd))]) [] [])) = some r := by
  unfold F_tri_place at hr
  split at hr
  · rename_i b hb
    have e := ((QA_tri_place).ok _ _ hb).trans (qa_tri_place b)
    rw [opt_eval2] at hr
    exact ⟨b.1.1, b.1.2.1, (Prod.mk.inj e).1, (Prod.mk.inj e).2, hr⟩
  · cases hr
theorem n_tri_place {σ : Type} (q : (Int × Bool) → Option σ) (x0 : Int) (x1 : Int) : (f_tri_place x0 x1).bind q = K_tri_place   x0 x1 q := by
  unfold f_tri_place
  exact m_tri_place q    x0 x1 some
theorem s_tri_place : Sound Try.prog 58 (F_tri_place f_tri_place) :=
  (inl_sound (l := []) (.nil _) mixed [] [] 200 (by kernel_rfl)).by (F := F_tri_place f_tri_place) fun args b r hr => by
  obtain ⟨x0, x1, rfl, rfl, hr1⟩ := e_tri_place hr
  exact inl_eval ((d_tri_place   x0 x1).trans ((n_tri_place (fun (d : Int × Bool) => some (Res.mk (AV.tup [RV.c (CV.f (FV.i IntKind.i64 d.fst)), RV.c (CV.f (FV.b d.snd))]) [] [])) x0 x1).symm.trans hr1))

def K_tri_Set {ρ : Type} (g_tri_place : Int → Int → Option (Int × Bool))  (x0 : Nat → Int) (x1 : Nat → Int) (x2 : Int) (x3 : Int) (x4 : Int) (k : ((Nat → Int) × (Nat → Int)) → Option ρ) : Option ρ :=
  Option.bind (g_tri_place x2 x3) fun (d : Int × Bool) =>
    bif d.snd then
      bif inR d.fst 276 then
        bif Nat.ble (0 + Int.toNat d.fst * 1 + 1) 276 && Nat.ble (0 + Int.toNat d.fst * 1 + 1) 300 then k (fun (j : Nat) => bif Nat.beq j (Int.toNat d.fst) then x4 else x0 j, x1) else none
      else none
    else k (x0, x1)
def f_tri_Set (x0 : Nat → Int) (x1 : Nat → Int) (x2 : Int) (x3 : Int) (x4 : Int) : Option ((Nat → Int) × (Nat → Int)) := K_tri_Set f_tri_place  x0 x1 x2 x3 x4 some
section
open Go.Ab.Rdr
def QA_tri_Set := ((pair (cons (ar (ra (cons (ga (szl (nat 276)) (cons (ki .i64 hole) nil)) (cons (ga (szl (nat 24)) (cons (ki .i64 hole) nil)) nil)))) (cons (ar (rc (cf (fi .i64 hole)))) (cons (ar (rc (cf (fi .i64 hole)))) (cons (ar (rc (cf (fi .i64 hole)))) nil)))) nil) : Rdr (List AV × List Blk) _)
end
def F_tri_Set (f : (Nat → Int) → (Nat → Int) → (Int) → (Int) → (Int) → Option ((Nat → Int) × (Nat → Int))) : Sem1 := fun args h => match (QA_tri_Set).rd (args, h) with
  | some b => .opt (f b.1.1.1.2.1 b.1.1.2.1.2.1 b.1.2.1 b.1.2.2.1 b.1.2.2.2.1) fun (d : (Nat → Int) × (Nat → Int)) => .leaf (Res.mk (AV.r (RV.agg [Sg.a (Sz.l 276) [Col.i IntKind.i64 d.fst], Sg.a (Sz.l 24) [Col.i IntKind.i64 d.snd]])) [] [])
  | none => .fail
theorem d_tri_Set (g_tri_place : Int → Int → Option (Int × Bool))  (x0 : Nat → Int) (x1 : Nat → Int) (x2 : Int) (x3 : Int) (x4 : Int) : den Try.prog (envOf [(58, F_tri_place g_tri_place)]) ⟨[], [], [], [], none⟩ 200 43 [.r (.agg [.a (.l 276) [.i .i64 x0], .a (.l 24) [.i .i64 x1]]), .r (.c (.f (.i .i64 x2))), .r (.c (.f (.i .i64 x3))), .r (.c (.f (.i .i64 x4)))] [] =
    K_tri_Set g_tri_place  x0 x1 x2 x3 x4 (fun (d : (Nat → Int) × (Nat → Int)) => some (Res.mk (AV.r (RV.agg [Sg.a (Sz.l 276) [Col.i IntKind.i64 d.fst], Sg.a (Sz.l 24) [Col.i IntKind.i64 d.snd]])) [] [])) := by kernel_rfl
theorem m_tri_Set {ρ σ : Type} (q : ρ → Option σ) (g_tri_place : Int → Int → Option (Int × Bool))   (x0 : Nat → Int) (x1 : Nat → Int) (x2 : Int) (x3 : Int) (x4 : Int) (k : ((Nat → Int) × (Nat → Int)) → Option ρ) : (K_tri_Set g_tri_place  x0 x1 x2 x3 x4 k).bind q = K_tri_Set g_tri_place  x0 x1 x2 x3 x4 (fun d => (k d).bind q) := by
  simp only [K_tri_Set, bnd_cond, bnd_bind, bnd_none, bnd_sum]
theorem qa_tri_Set : ∀ b, (QA_tri_Set).em b = ([.r (.agg [.a (.l 276) [.i .i64 b.1.1.1.2.1], .a (.l 24) [.i .i64 b.1.1.2.1.2.1]]), .r (.c (.f (.i .i64 b.1.2.1))), .r (.c (.f (.i .i64 b.1.2.2.1))), .r (.c (.f (.i .i64 b.1.2.2.2.1)))], []) := fun b => by kernel_rfl
theorem e_tri_Set {f : (Nat → Int) → (Nat → Int) → (Int) → (Int) → (Int) → Option ((Nat → Int) × (Nat → Int))} {args : List AV} {h : List Blk} {r : Res} (hr : (F_tri_Set f args h).eval = some r) : ∃ x0 x1 x2 x3 x4, args = [.r (.agg [.a (.l 276) [.i .i64 x0], .a (.l 24) [.i .i64 x1]]), .r (.c (.f (.i .i64 x2))), .r (.c (.f (.i .i64 x3))), .r (.c (.f (.i .i64 x4)))] ∧ h = [] ∧ (f x0 x1 x2 x3 x4).bind (fun (d : (Nat → Int) × (Nat → Int)) => some (Res.mk (AV.r (RV.agg [Sg.a (Sz.l 276) [Col.i IntKind.i64 d.fst], Sg.a (Sz.l 24) [Col.i IntKind.i64 d.snd]])) [] [])) = some r := by
  unfold F_tri_Set at hr
  split at hr
  · rename_i b hb
    have e := ((QA_tri_Set).ok _ _ hb).trans (qa_tri_Set b)
    rw [opt_eval2] at hr
    exact ⟨b.1.1.1.2.1, b.1.1.2.1.2.1, b.1.2.1, b.1.2.2.1, b.1.2.2.2.1, (Prod.mk.inj e).1, (Prod.mk.inj e).2, hr⟩
  · cases hr
theorem n_tri_Set {σ : Type} (q : ((Nat → Int) × (Nat → Int)) → Option σ) (x0 : Nat → Int) (x1 : Nat → Int) (x2 : Int) (x3 : Int) (x4 : Int) : (f_tri_Set x0 x1 x2 x3 x4).bind q = K_tri_Set f_tri_place  x0 x1 x2 x3 x4 q := by
  unfold f_tri_Set
  exact m_tri_Set q f_tri_place   x0 x1 x2 x3 x4 some
theorem s_tri_Set : Sound Try.prog 43 (F_tri_Set f_tri_Set) :=
  (inl_sound (l := [(58, F_tri_place f_tri_place)]) (.cons s_tri_place (.nil _)) mixed [] [] 200 (by kernel_rfl)).by (F := F_tri_Set f_tri_Set) fun args b r hr => by
  obtain ⟨x0, x1, x2, x3, x4, rfl, rfl, hr1⟩ := e_tri_Set hr
  exact inl_eval ((d_tri_Set f_tri_place  x0 x1 x2 x3 x4).trans ((n_tri_Set (fun (d : (Nat → Int) × (Nat → Int)) => some (Res.mk (AV.r (RV.agg [Sg.a (Sz.l 276) [Col.i IntKind.i64 d.fst], Sg.a (Sz.l 24) [Col.i IntKind.i64 d.snd]])) [] [])) x0 x1 x2 x3 x4).symm.trans hr1))

def K_tri_U {ρ : Type} (g_tri_place : Int → Int → Option (Int × Bool))  (x0 : Nat → Int) (x1 : Nat → Int) (x2 : Int) (x3 : Int) (k : (Int) → Option ρ) : Option ρ :=
  bif x2 == x3 then
    bif decide (x2 ≥ 0) then
      bif decide (x2 < 24) then k 1073741824
      else
        Option.bind (g_tri_place x2 x3) fun (d : Int × Bool) =>
          bif !d.snd then k 0 else bif inR d.fst 276 then bif Nat.ble (0 + Int.toNat d.fst * 1 + 1) 276 then k (x0 (Int.toNat d.fst)) else none else none
    else
      Option.bind (g_tri_place x2 x3) fun (d : Int × Bool) =>
        bif !d.snd then k 0 else bif inR d.fst 276 then bif Nat.ble (0 + Int.toNat d.fst * 1 + 1) 276 then k (x0 (Int.toNat d.fst)) else none else none
  else
    Option.bind (g_tri_place x2 x3) fun (d : Int × Bool) =>
      bif !d.snd then k 0 else bif inR d.fst 276 then bif Nat.ble (0 + Int.toNat d.fst * 1 + 1) 276 then k (x0 (Int.toNat d.fst)) else none else none
def f_tri_U (x0 : Nat → Int) (x1 : Nat → Int) (x2 : Int) (x3 : Int) : Option (Int) := K_tri_U f_tri_place  x0 x1 x2 x3 some
section
open Go.Ab.Rdr
def QA_tri_U := ((pair (cons (ar (ra (cons (ga (szl (nat 276)) (cons (ki .i64 hole) nil)) (cons (ga (szl (nat 24)) (cons (ki .i64 hole) nil)) nil)))) (cons (ar (rc (cf (fi .i64 hole)))) (cons (ar (rc (cf (fi .i64 hole)))) nil))) nil) : Rdr (List AV × List Blk) _)
end
def F_tri_U (f : (Nat → Int) → (Nat → Int) → (Int) → (Int) → Option (Int)) : Sem1 := fun args h => match (QA_tri_U).rd (args, h) with
  | some b => .opt (f b.1.1.1.2.1 b.1.1.2.1.2.1 b.1.2.1 b.1.2.2.1) fun (d : Int) => .leaf (Res.mk (AV.r (RV.c (CV.f (FV.i IntKind.i64 d)))) [] [])
  | none => .fail
theorem d_tri_U (g_tri_place : Int → Int → Option (Int × Bool))  (x0 : Nat → Int) (x1 : Nat → Int) (x2 : Int) (x3 : Int) : den Try.prog (envOf [(58, F_tri_place g_tri_place)]) ⟨[], [], [], [], none⟩ 200 42 [.r (.agg [.a (.l 276) [.i .i64 x0], .a (.l 24) [.i .i64 x1]]), .r (.c (.f (.i .i64 x2))), .r (.c (.f (.i .i64 x3)))] [] =
    K_tri_U g_tri_place  x0 x1 x2 x3 (fun (d : Int) => some (Res.mk (AV.r (RV.c (CV.f (FV.i IntKind.i64 d)))) [] [])) := by kernel_rfl
theorem m_tri_U {ρ σ : Type} (q : ρ → Option σ) (g_tri_place : Int → Int → Option (Int × Bool))   (x0 : Nat → Int) (x1 : Nat → Int) (x2 : Int) (x3 : Int) (k : (Int) → Option ρ) : (K_tri_U g_tri_place  x0 x1 x2 x3 k).bind q = K_tri_U g_tri_place  x0 x1 x2 x3 (fun d => (k d).bind q) := by
  simp only [K_tri_U, bnd_cond, bnd_bind, bnd_none, bnd_sum]
theorem qa_tri_U : ∀ b, (QA_tri_U).em b = ([.r (.agg [.a (.l 276) [.i .i64 b.1.1.1.2.1], .a (.l 24) [.i .i64 b.1.1.2.1.2.1]]), .r (.c (.f (.i .i64 b.1.2.1))), .r (.c (.f (.i .i64 b.1.2.2.1)))], []) := fun b => by kernel_rfl
theorem e_tri_U {f : (Nat → Int) → (Nat → Int) → (Int) → (Int) → Option (Int)} {args : List AV} {h : List Blk} {r : Res} (hr : (F_tri_U f args h).eval = some r) : ∃ x0 x1 x2 x3, args = [.r (.agg [.a (.l 276) [.i .i64 x0], .a (.l 24) [.i .i64 x1]]), .r (.c (.f (.i .i64 x2))), .r (.c (.f (.i .i64 x3)))] ∧ h = [] ∧ (f x0 x1 x2 x3).bind (fun (d : Int) => some (Res.mk (AV.r (RV.c (CV.f (FV.i IntKind.i64 d)))) [] [])) = some r := by
  unfold F_tri_U at hr
  split at hr
  · rename_i b hb
    have e := ((QA_tri_U).ok _ _ hb).trans (qa_tri_U b)
    rw [opt_eval2] at hr
    exact ⟨b.1.1.1.2.1, b.1.1.2.1.2.1, b.1.2.1, b.1.2.2.1, (Prod.mk.inj e).1, (Prod.mk.inj e).2, hr⟩
  · cases hr
theorem n_tri_U {σ : Type} (q : (Int) → Option σ) (x0 : Nat → Int) (x1 : Nat → Int) (x2 : Int) (x3 : Int) : (f_tri_U x0 x1 x2 x3).bind q = K_tri_U f_tri_place  x0 x1 x2 x3 q := by
  unfold f_tri_U
  exact m_tri_U q f_tri_place   x0 x1 x2 x3 some
theorem s_tri_U : Sound Try.prog 42 (F_tri_U f_tri_U) :=
  (inl_sound (l := [(58, F_tri_place f_tri_place)]) (.cons s_tri_place (.nil _)) mixed [] [] 200 (by kernel_rfl)).by (F := F_tri_U f_tri_U) fun args b r hr => by
  obtain ⟨x0, x1, x2, x3, rfl, rfl, hr1⟩ := e_tri_U hr
  exact inl_eval ((d_tri_U f_tri_place  x0 x1 x2 x3).trans ((n_tri_U (fun (d : Int) => some (Res.mk (AV.r (RV.c (CV.f (FV.i IntKind.i64 d)))) [] [])) x0 x1 x2 x3).symm.trans hr1))

def S_tri_At_0 {ρ : Type} (g_tri_U : (Nat → Int) → (Nat → Int) → Int → Int → Option Int) (g___fx_Acc__Mul : Int → Int → Int → Bool → Option (Int × Bool)) (g___fx_Acc__Dot : Int → Nat → Nat → Bool → (Nat → Int) → (Nat → Int) → Bool → Bool → Option (Int × Bool))  (x0 : Int) (x1 : Int) (x2 : Nat) (x3 : Nat) (x4 : Int) (x5 : Bool) (x6 : Nat → Int) (x7 : Nat → Int) (x8 : Nat) (x9 : Nat → Int) (x10 : Nat) (x11 : Nat → Int) (c : (Int × Int × Nat × Nat × Int × Bool × (Nat → Int) × (Nat → Int) × Nat × (Nat → Int) × Nat × (Nat → Int)) → Option ρ) (x : (Int × Int × Nat × Nat × Int × Bool × Bool × (Nat → Int) × (Nat → Int) × Nat × (Nat → Int) × Nat × (Nat → Int)) → Option ρ) : Option ρ :=
  bif decide (x4 < 24) then
    Option.bind (g_tri_U x6 x7 x0 x4) fun (d : Int) =>
      bif Nat.ble ((x2 + 1) * 8) 140737488355328 then
        Option.bind (g_tri_U x6 x7 x1 x4) fun (d_1 : Int) =>
          bif inR x4 24 then
            Option.bind (g___fx_Acc__Mul d_1 (x7 (Int.toNat x4)) 30 x5) fun (d_2 : Int × Bool) =>
              bif Nat.ble ((x3 + 1) * 8) 140737488355328 then
                c
                  (x0, x1, x2 + 1, x3 + 1, IntKind.wrap IntKind.i64 (x4 + 1), d_2.snd, x6, x7, x2 + 1, fun (j : Nat) => bif Nat.beq j x2 then d else x9 j, x3 + 1, fun (j : Nat) =>
                    bif Nat.beq j x3 then d_2.fst else x11 j)
              else none
          else none
      else none
  else x (x0, x1, x2, x3, x4, decide (x4 < 24), x5, x6, x7, x8, x9, x10, x11)
section
open Go.Ab.Rdr
def Q_tri_At_0 := (st (cons (ar (rc (cptr (nat 0) (ok' (nat 0)) (nat 1)))) (cons aund (cons (ar (rc (cf (fi .i64 hole)))) (cons (ar (rc (cf (fi .i64 hole)))) (cons aund (cons (ar (rc (cptr (nat 1) (ok' (nat 0)) (nat 300)))) (cons aund (cons aund (cons aund (cons (ar (rc (csl (nat 2) (ok' (nat 0)) (szs hole) (nat 1) (bool true)))) (cons (ar (rc (csl (nat 3) (ok' (nat 0)) (szs hole) (nat 1) (bool true)))) (cons (ar (rc (cf (fi .i64 hole)))) (cons aund (cons aund (cons aund (cons aund (cons aund (cons aund (cons aund (cons aund (cons aund (cons aund (cons aund (cons aund (cons aund (cons aund (cons aund (cons aund (cons aund (cons aund (cons aund (cons aund (cons aund (cons aund (cons aund (cons aund (cons aund (cons aund (cons aund (cons aund (cons aund (cons aund (cons aund (cons aund (cons aund (cons aund (cons aund (cons aund (cons aund (cons aund (cons aund (cons aund (cons aund nil))))))))))))))))))))))))))))))))))))))))))))))))))))) (cons (some' (cons (gc (cf (fb hole))) nil)) (cons (some' (cons (ga (szl (nat 276)) (cons (ki .i64 hole) nil)) (cons (ga (szl (nat 24)) (cons (ki .i64 hole) nil)) nil))) (cons (some' (cons (ga (szs hole) (cons (ki .i64 hole) nil)) nil)) (cons (some' (cons (ga (szs hole) (cons (ki .i64 hole) nil)) nil)) nil)))) (cons (nat 0) nil))
end
theorem q_tri_At_0 : ∀ b, (Q_tri_At_0).em b = St.mk
    [AV.r (RV.c (CV.ptr 0 (Off.k 0) 1)), AV.und, AV.r (RV.c (CV.f (FV.i IntKind.i64 b.1.2.2.1))), AV.r (RV.c (CV.f (FV.i IntKind.i64 b.1.2.2.2.1))), AV.und, AV.r (RV.c (CV.ptr 1 (Off.k 0) 300)), AV.und, AV.und, AV.und,
      AV.r (RV.c (CV.sl 2 (Off.k 0) (Sz.s b.1.2.2.2.2.2.2.2.2.2.1.2.2.1) 1 true)), AV.r (RV.c (CV.sl 3 (Off.k 0) (Sz.s b.1.2.2.2.2.2.2.2.2.2.2.1.2.2.1) 1 true)), AV.r (RV.c (CV.f (FV.i IntKind.i64 b.1.2.2.2.2.2.2.2.2.2.2.2.1))), AV.und, AV.und, AV.und, AV.und, AV.und, AV.und,
      AV.und, AV.und, AV.und, AV.und, AV.und, AV.und, AV.und, AV.und, AV.und, AV.und, AV.und, AV.und, AV.und, AV.und, AV.und, AV.und, AV.und, AV.und, AV.und, AV.und, AV.und, AV.und, AV.und, AV.und,
      AV.und, AV.und, AV.und, AV.und, AV.und, AV.und, AV.und, AV.und, AV.und, AV.und, AV.und]
    [some [Sg.c (CV.f (FV.b b.2.1.1.1))], some [Sg.a (Sz.l 276) [Col.i IntKind.i64 b.2.1.2.1.1.2.1], Sg.a (Sz.l 24) [Col.i IntKind.i64 b.2.1.2.1.2.1.2.1]], some [Sg.a (Sz.s b.2.1.2.2.1.1.1) [Col.i IntKind.i64 b.2.1.2.2.1.1.2.1]],
      some [Sg.a (Sz.s b.2.1.2.2.2.1.1.1) [Col.i IntKind.i64 b.2.1.2.2.2.1.1.2.1]]]
    [0] := fun b => by kernel_rfl
def R_tri_At_0 (l : ∀ {ρ : Type}, (Int × Int × Nat × Nat × Int × Bool × (Nat → Int) × (Nat → Int) × Nat × (Nat → Int) × Nat × (Nat → Int)) → ((Int × Int × Nat × Nat × Int × Bool × Bool × (Nat → Int) × (Nat → Int) × Nat × (Nat → Int) × Nat × (Nat → Int)) → Option ρ) → Option ρ) {ρ : Type} (s : St) (K : AX → St → Option ρ) : Option ρ := ((Q_tri_At_0).rd s).bind fun b => l (b.1.2.2.1, b.1.2.2.2.1, b.1.2.2.2.2.2.2.2.2.2.1.2.2.1, b.1.2.2.2.2.2.2.2.2.2.2.1.2.2.1, b.1.2.2.2.2.2.2.2.2.2.2.2.1, b.2.1.1.1, b.2.1.2.1.1.2.1, b.2.1.2.1.2.1.2.1, b.2.1.2.2.1.1.1, b.2.1.2.2.1.1.2.1, b.2.1.2.2.2.1.1.1, b.2.1.2.2.2.1.1.2.1) (fun d => K (AX.ex 0) (St.mk
  [AV.r (RV.c (CV.ptr 0 (Off.k 0) 1)), AV.und, AV.r (RV.c (CV.f (FV.i IntKind.i64 d.fst))), AV.r (RV.c (CV.f (FV.i IntKind.i64 d.snd.fst))), AV.und, AV.r (RV.c (CV.ptr 1 (Off.k 0) 300)), AV.und,
    AV.und, AV.und, AV.r (RV.c (CV.sl 2 (Off.k 0) (Sz.s d.snd.snd.fst) 1 true)), AV.r (RV.c (CV.sl 3 (Off.k 0) (Sz.s d.snd.snd.snd.fst) 1 true)),
    AV.r (RV.c (CV.f (FV.i IntKind.i64 d.snd.snd.snd.snd.fst))), AV.und, AV.und, AV.und, AV.und, AV.und, AV.und, AV.und, AV.und, AV.und, AV.und, AV.und, AV.und, AV.und,
    AV.r (RV.c (CV.f (FV.i IntKind.i64 d.snd.snd.snd.snd.fst))), AV.r (RV.c (CV.f (FV.b d.snd.snd.snd.snd.snd.fst))), AV.und, AV.und, AV.und, AV.und, AV.und, AV.und, AV.und, AV.und, AV.und, AV.und,
    AV.und, AV.und, AV.und, AV.und, AV.und, AV.und, AV.und, AV.und, AV.und, AV.und, AV.und, AV.und, AV.und, AV.und, AV.und, AV.und]
  [some [Sg.c (CV.f (FV.b d.snd.snd.snd.snd.snd.snd.fst))],
    some [Sg.a (Sz.l 276) [Col.i IntKind.i64 d.snd.snd.snd.snd.snd.snd.snd.fst], Sg.a (Sz.l 24) [Col.i IntKind.i64 d.snd.snd.snd.snd.snd.snd.snd.snd.fst]],
    some [Sg.a (Sz.s d.snd.snd.snd.snd.snd.snd.snd.snd.snd.fst) [Col.i IntKind.i64 d.snd.snd.snd.snd.snd.snd.snd.snd.snd.snd.fst]],
    some [Sg.a (Sz.s d.snd.snd.snd.snd.snd.snd.snd.snd.snd.snd.snd.fst) [Col.i IntKind.i64 d.snd.snd.snd.snd.snd.snd.snd.snd.snd.snd.snd.snd]]]
  [0]))
theorem ms_tri_At_0 {ρ σ : Type} (g_tri_U : (Nat → Int) → (Nat → Int) → Int → Int → Option Int) (g___fx_Acc__Mul : Int → Int → Int → Bool → Option (Int × Bool)) (g___fx_Acc__Dot : Int → Nat → Nat → Bool → (Nat → Int) → (Nat → Int) → Bool → Bool → Option (Int × Bool))   (q : ρ → Option σ) (x0 : Int) (x1 : Int) (x2 : Nat) (x3 : Nat) (x4 : Int) (x5 : Bool) (x6 : Nat → Int) (x7 : Nat → Int) (x8 : Nat) (x9 : Nat → Int) (x10 : Nat) (x11 : Nat → Int) (c : (Int × Int × Nat × Nat × Int × Bool × (Nat → Int) × (Nat → Int) × Nat × (Nat → Int) × Nat × (Nat → Int)) → Option ρ) (x : (Int × Int × Nat × Nat × Int × Bool × Bool × (Nat → Int) × (Nat → Int) × Nat × (Nat → Int) × Nat × (Nat → Int)) → Option ρ) : (S_tri_At_0 g_tri_U g___fx_Acc__Mul g___fx_Acc__Dot  x0 x1 x2 x3 x4 x5 x6 x7 x8 x9 x10 x11 c x).bind q = S_tri_At_0 g_tri_U g___fx_Acc__Mul g___fx_Acc__Dot  x0 x1 x2 x3 x4 x5 x6 x7 x8 x9 x10 x11 (fun d => (c d).bind q) (fun d => (x d).bind q) := by
  simp only [S_tri_At_0, bnd_cond, bnd_bind, bnd_none, bnd_sum]
def L_tri_At_0 {ρ : Type} (d : Int × Int × Nat × Nat × Int × Bool × (Nat → Int) × (Nat → Int) × Nat × (Nat → Int) × Nat × (Nat → Int)) (k : (Int × Int × Nat × Nat × Int × Bool × Bool × (Nat → Int) × (Nat → Int) × Nat × (Nat → Int) × Nat × (Nat → Int)) → Option ρ) : Option ρ := loopK (fun d c x => S_tri_At_0 f_tri_U f___fx_Acc__Mul f___fx_Acc__Dot  d.1 d.2.1 d.2.2.1 d.2.2.2.1 d.2.2.2.2.1 d.2.2.2.2.2.1 d.2.2.2.2.2.2.1 d.2.2.2.2.2.2.2.1 d.2.2.2.2.2.2.2.2.1 d.2.2.2.2.2.2.2.2.2.1 d.2.2.2.2.2.2.2.2.2.2.1 d.2.2.2.2.2.2.2.2.2.2.2 c x) 200 d k
theorem mL_tri_At_0 {ρ σ : Type} (q : ρ → Option σ) (d : Int × Int × Nat × Nat × Int × Bool × (Nat → Int) × (Nat → Int) × Nat × (Nat → Int) × Nat × (Nat → Int)) (k : (Int × Int × Nat × Nat × Int × Bool × Bool × (Nat → Int) × (Nat → Int) × Nat × (Nat → Int) × Nat × (Nat → Int)) → Option ρ) : (L_tri_At_0 d k).bind q = L_tri_At_0 d fun x => (k x).bind q :=
  loopK_bind q (fun d c x => ms_tri_At_0 f_tri_U f___fx_Acc__Mul f___fx_Acc__Dot   q d.1 d.2.1 d.2.2.1 d.2.2.2.1 d.2.2.2.2.1 d.2.2.2.2.2.1 d.2.2.2.2.2.2.1 d.2.2.2.2.2.2.2.1 d.2.2.2.2.2.2.2.2.1 d.2.2.2.2.2.2.2.2.2.1 d.2.2.2.2.2.2.2.2.2.2.1 d.2.2.2.2.2.2.2.2.2.2.2 c x) k _ d
theorem ds_tri_At_0 {ρ : Type} (g_tri_U : (Nat → Int) → (Nat → Int) → Int → Int → Option Int) (g___fx_Acc__Mul : Int → Int → Int → Bool → Option (Int × Bool)) (g___fx_Acc__Dot : Int → Nat → Nat → Bool → (Nat → Int) → (Nat → Int) → Bool → Bool → Option (Int × Bool)) (l_0 : ∀ {ρ : Type}, (Int × Int × Nat × Nat × Int × Bool × (Nat → Int) × (Nat → Int) × Nat × (Nat → Int) × Nat × (Nat → Int)) → ((Int × Int × Nat × Nat × Int × Bool × Bool × (Nat → Int) × (Nat → Int) × Nat × (Nat → Int) × Nat × (Nat → Int)) → Option ρ) → Option ρ) (x0 : Int) (x1 : Int) (x2 : Nat) (x3 : Nat) (x4 : Int) (x5 : Bool) (x6 : Nat → Int) (x7 : Nat → Int) (x8 : Nat) (x9 : Nat → Int) (x10 : Nat) (x11 : Nat → Int) (c : St → Option ρ) (K : AX → St → Option ρ) :
    runC Try.prog (envOf [(42, F_tri_U g_tri_U), (60, F___fx_Acc__Mul g___fx_Acc__Mul), (61, F___fx_Acc__Dot g___fx_Acc__Dot)]) ⟨[⟨5, [1, 4, 6, 7, 8, 12, 13, 14, 15, 16, 17, 18, 19, 20, 21, 22, 23, 24, 25, 26, 27, 28, 29, 30, 31, 32, 33, 34, 35, 36, 37, 38, 39, 40, 41, 42, 43, 44, 45, 46, 47, 48, 49, 50, 51, 52], [(9, [.i .i64]), (10, [.i .i64])]⟩], [⟨5, 1, @R_tri_At_0 (@l_0)⟩], [0], [], none⟩ (tmpsOf Try.prog 46) 1 200 (loopIn Try.prog 46 5)
      (St.mk
    [AV.r (RV.c (CV.ptr 0 (Off.k 0) 1)), AV.und, AV.r (RV.c (CV.f (FV.i IntKind.i64 x0))), AV.r (RV.c (CV.f (FV.i IntKind.i64 x1))), AV.und, AV.r (RV.c (CV.ptr 1 (Off.k 0) 300)), AV.und, AV.und, AV.und,
      AV.r (RV.c (CV.sl 2 (Off.k 0) (Sz.s x2) 1 true)), AV.r (RV.c (CV.sl 3 (Off.k 0) (Sz.s x3) 1 true)), AV.r (RV.c (CV.f (FV.i IntKind.i64 x4))), AV.und, AV.und, AV.und, AV.und, AV.und, AV.und,
      AV.und, AV.und, AV.und, AV.und, AV.und, AV.und, AV.und, AV.und, AV.und, AV.und, AV.und, AV.und, AV.und, AV.und, AV.und, AV.und, AV.und, AV.und, AV.und, AV.und, AV.und, AV.und, AV.und, AV.und,
      AV.und, AV.und, AV.und, AV.und, AV.und, AV.und, AV.und, AV.und, AV.und, AV.und, AV.und]
    [some [Sg.c (CV.f (FV.b x5))], some [Sg.a (Sz.l 276) [Col.i IntKind.i64 x6], Sg.a (Sz.l 24) [Col.i IntKind.i64 x7]], some [Sg.a (Sz.s x8) [Col.i IntKind.i64 x9]],
      some [Sg.a (Sz.s x10) [Col.i IntKind.i64 x11]]]
    [0])
      (next (fun t => t.head 1 ⟨[⟨5, [1, 4, 6, 7, 8, 12, 13, 14, 15, 16, 17, 18, 19, 20, 21, 22, 23, 24, 25, 26, 27, 28, 29, 30, 31, 32, 33, 34, 35, 36, 37, 38, 39, 40, 41, 42, 43, 44, 45, 46, 47, 48, 49, 50, 51, 52], [(9, [.i .i64]), (10, [.i .i64])]⟩], [⟨5, 1, @R_tri_At_0 (@l_0)⟩], [0], [], none⟩ (loopIn Try.prog 46 5)) c K) =
    S_tri_At_0 g_tri_U g___fx_Acc__Mul g___fx_Acc__Dot  x0 x1 x2 x3 x4 x5 x6 x7 x8 x9 x10 x11 (fun d => c (St.mk
  [AV.r (RV.c (CV.ptr 0 (Off.k 0) 1)), AV.und, AV.r (RV.c (CV.f (FV.i IntKind.i64 d.fst))), AV.r (RV.c (CV.f (FV.i IntKind.i64 d.snd.fst))), AV.und, AV.r (RV.c (CV.ptr 1 (Off.k 0) 300)), AV.und,
    AV.und, AV.und, AV.r (RV.c (CV.sl 2 (Off.k 0) (Sz.s d.snd.snd.fst) 1 true)), AV.r (RV.c (CV.sl 3 (Off.k 0) (Sz.s d.snd.snd.snd.fst) 1 true)),
    AV.r (RV.c (CV.f (FV.i IntKind.i64 d.snd.snd.snd.snd.fst))), AV.und, AV.und, AV.und, AV.und, AV.und, AV.und, AV.und, AV.und, AV.und, AV.und, AV.und, AV.und, AV.und, AV.und, AV.und, AV.und, AV.und,
    AV.und, AV.und, AV.und, AV.und, AV.und, AV.und, AV.und, AV.und, AV.und, AV.und, AV.und, AV.und, AV.und, AV.und, AV.und, AV.und, AV.und, AV.und, AV.und, AV.und, AV.und, AV.und, AV.und, AV.und]
  [some [Sg.c (CV.f (FV.b d.snd.snd.snd.snd.snd.fst))], some [Sg.a (Sz.l 276) [Col.i IntKind.i64 d.snd.snd.snd.snd.snd.snd.fst], Sg.a (Sz.l 24) [Col.i IntKind.i64 d.snd.snd.snd.snd.snd.snd.snd.fst]],
    some [Sg.a (Sz.s d.snd.snd.snd.snd.snd.snd.snd.snd.fst) [Col.i IntKind.i64 d.snd.snd.snd.snd.snd.snd.snd.snd.snd.fst]],
    some [Sg.a (Sz.s d.snd.snd.snd.snd.snd.snd.snd.snd.snd.snd.fst) [Col.i IntKind.i64 d.snd.snd.snd.snd.snd.snd.snd.snd.snd.snd.snd]]]
  [0])) (fun d => K (AX.ex 0) (St.mk
  [AV.r (RV.c (CV.ptr 0 (Off.k 0) 1)), AV.und, AV.r (RV.c (CV.f (FV.i IntKind.i64 d.fst))), AV.r (RV.c (CV.f (FV.i IntKind.i64 d.snd.fst))), AV.und, AV.r (RV.c (CV.ptr 1 (Off.k 0) 300)), AV.und,
    AV.und, AV.und, AV.r (RV.c (CV.sl 2 (Off.k 0) (Sz.s d.snd.snd.fst) 1 true)), AV.r (RV.c (CV.sl 3 (Off.k 0) (Sz.s d.snd.snd.snd.fst) 1 true)),
    AV.r (RV.c (CV.f (FV.i IntKind.i64 d.snd.snd.snd.snd.fst))), AV.und, AV.und, AV.und, AV.und, AV.und, AV.und, AV.und, AV.und, AV.und, AV.und, AV.und, AV.und, AV.und,
    AV.r (RV.c (CV.f (FV.i IntKind.i64 d.snd.snd.snd.snd.fst))), AV.r (RV.c (CV.f (FV.b d.snd.snd.snd.snd.snd.fst))), AV.und, AV.und, AV.und, AV.und, AV.und, AV.und, AV.und, AV.und, AV.und, AV.und,
    AV.und, AV.und, AV.und, AV.und, AV.und, AV.und, AV.und, AV.und, AV.und, AV.und, AV.und, AV.und, AV.und, AV.und, AV.und, AV.und]
  [some [Sg.c (CV.f (FV.b d.snd.snd.snd.snd.snd.snd.fst))],
    some [Sg.a (Sz.l 276) [Col.i IntKind.i64 d.snd.snd.snd.snd.snd.snd.snd.fst], Sg.a (Sz.l 24) [Col.i IntKind.i64 d.snd.snd.snd.snd.snd.snd.snd.snd.fst]],
    some [Sg.a (Sz.s d.snd.snd.snd.snd.snd.snd.snd.snd.snd.fst) [Col.i IntKind.i64 d.snd.snd.snd.snd.snd.snd.snd.snd.snd.snd.fst]],
    some [Sg.a (Sz.s d.snd.snd.snd.snd.snd.snd.snd.snd.snd.snd.snd.fst) [Col.i IntKind.i64 d.snd.snd.snd.snd.snd.snd.snd.snd.snd.snd.snd.snd]]]
  [0])) := by kernel_rfl
theorem it_tri_At_0 {ρ : Type} (x0 : Int) (x1 : Int) (x2 : Nat) (x3 : Nat) (x4 : Int) (x5 : Bool) (x6 : Nat → Int) (x7 : Nat → Int) (x8 : Nat) (x9 : Nat → Int) (x10 : Nat) (x11 : Nat → Int) (K : AX → St → Option ρ) :
    iter (fun t => t.head 1 ⟨[⟨5, [1, 4, 6, 7, 8, 12, 13, 14, 15, 16, 17, 18, 19, 20, 21, 22, 23, 24, 25, 26, 27, 28, 29, 30, 31, 32, 33, 34, 35, 36, 37, 38, 39, 40, 41, 42, 43, 44, 45, 46, 47, 48, 49, 50, 51, 52], [(9, [.i .i64]), (10, [.i .i64])]⟩], [⟨5, 1, @R_tri_At_0 (@L_tri_At_0)⟩], [0], [], none⟩ (loopIn Try.prog 46 5)) (runC Try.prog (envOf [(42, F_tri_U f_tri_U), (60, F___fx_Acc__Mul f___fx_Acc__Mul), (61, F___fx_Acc__Dot f___fx_Acc__Dot)]) ⟨[⟨5, [1, 4, 6, 7, 8, 12, 13, 14, 15, 16, 17, 18, 19, 20, 21, 22, 23, 24, 25, 26, 27, 28, 29, 30, 31, 32, 33, 34, 35, 36, 37, 38, 39, 40, 41, 42, 43, 44, 45, 46, 47, 48, 49, 50, 51, 52], [(9, [.i .i64]), (10, [.i .i64])]⟩], [⟨5, 1, @R_tri_At_0 (@L_tri_At_0)⟩], [0], [], none⟩ (tmpsOf Try.prog 46) 1 200 (loopIn Try.prog 46 5)) K 200
      (St.mk
    [AV.r (RV.c (CV.ptr 0 (Off.k 0) 1)), AV.und, AV.r (RV.c (CV.f (FV.i IntKind.i64 x0))), AV.r (RV.c (CV.f (FV.i IntKind.i64 x1))), AV.und, AV.r (RV.c (CV.ptr 1 (Off.k 0) 300)), AV.und, AV.und, AV.und,
      AV.r (RV.c (CV.sl 2 (Off.k 0) (Sz.s x2) 1 true)), AV.r (RV.c (CV.sl 3 (Off.k 0) (Sz.s x3) 1 true)), AV.r (RV.c (CV.f (FV.i IntKind.i64 x4))), AV.und, AV.und, AV.und, AV.und, AV.und, AV.und,
      AV.und, AV.und, AV.und, AV.und, AV.und, AV.und, AV.und, AV.und, AV.und, AV.und, AV.und, AV.und, AV.und, AV.und, AV.und, AV.und, AV.und, AV.und, AV.und, AV.und, AV.und, AV.und, AV.und, AV.und,
      AV.und, AV.und, AV.und, AV.und, AV.und, AV.und, AV.und, AV.und, AV.und, AV.und, AV.und]
    [some [Sg.c (CV.f (FV.b x5))], some [Sg.a (Sz.l 276) [Col.i IntKind.i64 x6], Sg.a (Sz.l 24) [Col.i IntKind.i64 x7]], some [Sg.a (Sz.s x8) [Col.i IntKind.i64 x9]],
      some [Sg.a (Sz.s x10) [Col.i IntKind.i64 x11]]]
    [0]) = L_tri_At_0 (x0, x1, x2, x3, x4, x5, x6, x7, x8, x9, x10, x11) (fun d => K (AX.ex 0) (St.mk
  [AV.r (RV.c (CV.ptr 0 (Off.k 0) 1)), AV.und, AV.r (RV.c (CV.f (FV.i IntKind.i64 d.fst))), AV.r (RV.c (CV.f (FV.i IntKind.i64 d.snd.fst))), AV.und, AV.r (RV.c (CV.ptr 1 (Off.k 0) 300)), AV.und,
    AV.und, AV.und, AV.r (RV.c (CV.sl 2 (Off.k 0) (Sz.s d.snd.snd.fst) 1 true)), AV.r (RV.c (CV.sl 3 (Off.k 0) (Sz.s d.snd.snd.snd.fst) 1 true)),
    AV.r (RV.c (CV.f (FV.i IntKind.i64 d.snd.snd.snd.snd.fst))), AV.und, AV.und, AV.und, AV.und, AV.und, AV.und, AV.und, AV.und, AV.und, AV.und, AV.und, AV.und, AV.und,
    AV.r (RV.c (CV.f (FV.i IntKind.i64 d.snd.snd.snd.snd.fst))), AV.r (RV.c (CV.f (FV.b d.snd.snd.snd.snd.snd.fst))), AV.und, AV.und, AV.und, AV.und, AV.und, AV.und, AV.und, AV.und, AV.und, AV.und,
    AV.und, AV.und, AV.und, AV.und, AV.und, AV.und, AV.und, AV.und, AV.und, AV.und, AV.und, AV.und, AV.und, AV.und, AV.und, AV.und]
  [some [Sg.c (CV.f (FV.b d.snd.snd.snd.snd.snd.snd.fst))],
    some [Sg.a (Sz.l 276) [Col.i IntKind.i64 d.snd.snd.snd.snd.snd.snd.snd.fst], Sg.a (Sz.l 24) [Col.i IntKind.i64 d.snd.snd.snd.snd.snd.snd.snd.snd.fst]],
    some [Sg.a (Sz.s d.snd.snd.snd.snd.snd.snd.snd.snd.snd.fst) [Col.i IntKind.i64 d.snd.snd.snd.snd.snd.snd.snd.snd.snd.snd.fst]],
    some [Sg.a (Sz.s d.snd.snd.snd.snd.snd.snd.snd.snd.snd.snd.snd.fst) [Col.i IntKind.i64 d.snd.snd.snd.snd.snd.snd.snd.snd.snd.snd.snd.snd]]]
  [0])) :=
  iter_loopX (emb := fun (d : Int × Int × Nat × Nat × Int × Bool × (Nat → Int) × (Nat → Int) × Nat × (Nat → Int) × Nat × (Nat → Int)) => St.mk
  [AV.r (RV.c (CV.ptr 0 (Off.k 0) 1)), AV.und, AV.r (RV.c (CV.f (FV.i IntKind.i64 d.fst))), AV.r (RV.c (CV.f (FV.i IntKind.i64 d.snd.fst))), AV.und, AV.r (RV.c (CV.ptr 1 (Off.k 0) 300)), AV.und,
    AV.und, AV.und, AV.r (RV.c (CV.sl 2 (Off.k 0) (Sz.s d.snd.snd.fst) 1 true)), AV.r (RV.c (CV.sl 3 (Off.k 0) (Sz.s d.snd.snd.snd.fst) 1 true)),
    AV.r (RV.c (CV.f (FV.i IntKind.i64 d.snd.snd.snd.snd.fst))), AV.und, AV.und, AV.und, AV.und, AV.und, AV.und, AV.und, AV.und, AV.und, AV.und, AV.und, AV.und, AV.und, AV.und, AV.und, AV.und, AV.und,
    AV.und, AV.und, AV.und, AV.und, AV.und, AV.und, AV.und, AV.und, AV.und, AV.und, AV.und, AV.und, AV.und, AV.und, AV.und, AV.und, AV.und, AV.und, AV.und, AV.und, AV.und, AV.und, AV.und, AV.und]
  [some [Sg.c (CV.f (FV.b d.snd.snd.snd.snd.snd.fst))], some [Sg.a (Sz.l 276) [Col.i IntKind.i64 d.snd.snd.snd.snd.snd.snd.fst], Sg.a (Sz.l 24) [Col.i IntKind.i64 d.snd.snd.snd.snd.snd.snd.snd.fst]],
    some [Sg.a (Sz.s d.snd.snd.snd.snd.snd.snd.snd.snd.fst) [Col.i IntKind.i64 d.snd.snd.snd.snd.snd.snd.snd.snd.snd.fst]],
    some [Sg.a (Sz.s d.snd.snd.snd.snd.snd.snd.snd.snd.snd.snd.fst) [Col.i IntKind.i64 d.snd.snd.snd.snd.snd.snd.snd.snd.snd.snd.snd]]]
  [0]) (step := fun d c x => S_tri_At_0 f_tri_U f___fx_Acc__Mul f___fx_Acc__Dot  d.1 d.2.1 d.2.2.1 d.2.2.2.1 d.2.2.2.2.1 d.2.2.2.2.2.1 d.2.2.2.2.2.2.1 d.2.2.2.2.2.2.2.1 d.2.2.2.2.2.2.2.2.1 d.2.2.2.2.2.2.2.2.2.1 d.2.2.2.2.2.2.2.2.2.2.1 d.2.2.2.2.2.2.2.2.2.2.2 c x) (kx := (fun d => K (AX.ex 0) (St.mk
  [AV.r (RV.c (CV.ptr 0 (Off.k 0) 1)), AV.und, AV.r (RV.c (CV.f (FV.i IntKind.i64 d.fst))), AV.r (RV.c (CV.f (FV.i IntKind.i64 d.snd.fst))), AV.und, AV.r (RV.c (CV.ptr 1 (Off.k 0) 300)), AV.und,
    AV.und, AV.und, AV.r (RV.c (CV.sl 2 (Off.k 0) (Sz.s d.snd.snd.fst) 1 true)), AV.r (RV.c (CV.sl 3 (Off.k 0) (Sz.s d.snd.snd.snd.fst) 1 true)),
    AV.r (RV.c (CV.f (FV.i IntKind.i64 d.snd.snd.snd.snd.fst))), AV.und, AV.und, AV.und, AV.und, AV.und, AV.und, AV.und, AV.und, AV.und, AV.und, AV.und, AV.und, AV.und,
    AV.r (RV.c (CV.f (FV.i IntKind.i64 d.snd.snd.snd.snd.fst))), AV.r (RV.c (CV.f (FV.b d.snd.snd.snd.snd.snd.fst))), AV.und, AV.und, AV.und, AV.und, AV.und, AV.und, AV.und, AV.und, AV.und, AV.und,
    AV.und, AV.und, AV.und, AV.und, AV.und, AV.und, AV.und, AV.und, AV.und, AV.und, AV.und, AV.und, AV.und, AV.und, AV.und, AV.und]
  [some [Sg.c (CV.f (FV.b d.snd.snd.snd.snd.snd.snd.fst))],
    some [Sg.a (Sz.l 276) [Col.i IntKind.i64 d.snd.snd.snd.snd.snd.snd.snd.fst], Sg.a (Sz.l 24) [Col.i IntKind.i64 d.snd.snd.snd.snd.snd.snd.snd.snd.fst]],
    some [Sg.a (Sz.s d.snd.snd.snd.snd.snd.snd.snd.snd.snd.fst) [Col.i IntKind.i64 d.snd.snd.snd.snd.snd.snd.snd.snd.snd.snd.fst]],
    some [Sg.a (Sz.s d.snd.snd.snd.snd.snd.snd.snd.snd.snd.snd.snd.fst) [Col.i IntKind.i64 d.snd.snd.snd.snd.snd.snd.snd.snd.snd.snd.snd.snd]]]
  [0])))
    (fun d c => ds_tri_At_0 f_tri_U f___fx_Acc__Mul f___fx_Acc__Dot (@L_tri_At_0) d.1 d.2.1 d.2.2.1 d.2.2.2.1 d.2.2.2.2.1 d.2.2.2.2.2.1 d.2.2.2.2.2.2.1 d.2.2.2.2.2.2.2.1 d.2.2.2.2.2.2.2.2.1 d.2.2.2.2.2.2.2.2.2.1 d.2.2.2.2.2.2.2.2.2.2.1 d.2.2.2.2.2.2.2.2.2.2.2 c K) 200 (x0, x1, x2, x3, x4, x5, x6, x7, x8, x9, x10, x11)
theorem so_tri_At_0 : ∀ kk, SumOK Try.prog (envOf [(42, F_tri_U f_tri_U), (60, F___fx_Acc__Mul f___fx_Acc__Mul), (61, F___fx_Acc__Dot f___fx_Acc__Dot)]) ⟨[⟨5, [1, 4, 6, 7, 8, 12, 13, 14, 15, 16, 17, 18, 19, 20, 21, 22, 23, 24, 25, 26, 27, 28, 29, 30, 31, 32, 33, 34, 35, 36, 37, 38, 39, 40, 41, 42, 43, 44, 45, 46, 47, 48, 49, 50, 51, 52], [(9, [.i .i64]), (10, [.i .i64])]⟩], [⟨5, 1, @R_tri_At_0 (@L_tri_At_0)⟩], [0], [], none⟩ (tmpsOf Try.prog 46) kk 200 (loopIn Try.prog 46 5) :=
  SumOK.of (id := 5) (k0 := 1) (run := @R_tri_At_0 (@L_tri_At_0)) (by kernel_rfl) fun s K r hr => by
    unfold R_tri_At_0 at hr
    obtain ⟨b, hb, hr1⟩ := Option.bind_eq_some_iff.1 hr
    have e := ((Q_tri_At_0).ok s b hb).trans (q_tri_At_0 b)
    subst e
    exact ⟨200, (it_tri_At_0 b.1.2.2.1 b.1.2.2.2.1 b.1.2.2.2.2.2.2.2.2.2.1.2.2.1 b.1.2.2.2.2.2.2.2.2.2.2.1.2.2.1 b.1.2.2.2.2.2.2.2.2.2.2.2.1 b.2.1.1.1 b.2.1.2.1.1.2.1 b.2.1.2.1.2.1.2.1 b.2.1.2.2.1.1.1 b.2.1.2.2.1.1.2.1 b.2.1.2.2.2.1.1.1 b.2.1.2.2.2.1.1.2.1 K).trans hr1⟩
def K_tri_At {ρ : Type} (g_tri_U : (Nat → Int) → (Nat → Int) → Int → Int → Option Int) (g___fx_Acc__Mul : Int → Int → Int → Bool → Option (Int × Bool)) (g___fx_Acc__Dot : Int → Nat → Nat → Bool → (Nat → Int) → (Nat → Int) → Bool → Bool → Option (Int × Bool)) (l_0 : ∀ {ρ : Type}, (Int × Int × Nat × Nat × Int × Bool × (Nat → Int) × (Nat → Int) × Nat × (Nat → Int) × Nat × (Nat → Int)) → ((Int × Int × Nat × Nat × Int × Bool × Bool × (Nat → Int) × (Nat → Int) × Nat × (Nat → Int) × Nat × (Nat → Int)) → Option ρ) → Option ρ) (x0 : Nat → Int) (x1 : Nat → Int) (x2 : Int) (x3 : Int) (x4 : Bool) (k : (Int × Bool) → Option ρ) : Option ρ :=
  bif decide ((if x3 < x2 then x3 else x2) < 0) then k (0, x4)
  else
    bif decide ((if x3 > x2 then x3 else x2) ≥ 24) then k (0, x4)
    else
      l_0 (x2, x3, 0, 0, if x3 > x2 then x3 else x2, x4, x0, x1, 0, fun (x : Nat) => 0, 0, fun (x : Nat) => 0)
        fun (d : Int × Int × Nat × Nat × Int × Bool × Bool × (Nat → Int) × (Nat → Int) × Nat × (Nat → Int) × Nat × (Nat → Int)) =>
        bif Nat.beq d.snd.snd.fst d.snd.snd.fst then
          bif Nat.beq d.snd.snd.snd.fst d.snd.snd.snd.fst then
            Option.bind
              (g___fx_Acc__Dot 30 d.snd.snd.fst d.snd.snd.snd.fst d.snd.snd.snd.snd.snd.snd.fst d.snd.snd.snd.snd.snd.snd.snd.snd.snd.snd.1 d.snd.snd.snd.snd.snd.snd.snd.snd.snd.snd.snd.2 true true)
              fun (d : Int × Bool) => k (d.fst, d.snd)
          else none
        else none
def f_tri_At (x0 : Nat → Int) (x1 : Nat → Int) (x2 : Int) (x3 : Int) (x4 : Bool) : Option (Int × Bool) := K_tri_At f_tri_U f___fx_Acc__Mul f___fx_Acc__Dot (@L_tri_At_0) x0 x1 x2 x3 x4 some
section
open Go.Ab.Rdr
def QA_tri_At := ((pair (cons (ar (rc (cptr (nat 0) (ok' (nat 0)) (nat 1)))) (cons (ar (ra (cons (ga (szl (nat 276)) (cons (ki .i64 hole) nil)) (cons (ga (szl (nat 24)) (cons (ki .i64 hole) nil)) nil)))) (cons (ar (rc (cf (fi .i64 hole)))) (cons (ar (rc (cf (fi .i64 hole)))) nil)))) (cons (cons (gc (cf (fb hole))) nil) nil)) : Rdr (List AV × List Blk) _)
end
def F_tri_At (f : (Nat → Int) → (Nat → Int) → (Int) → (Int) → (Bool) → Option (Int × Bool)) : Sem1 := fun args h => match (QA_tri_At).rd (args, h) with
  | some b => .opt (f b.1.2.1.1.2.1 b.1.2.1.2.1.2.1 b.1.2.2.1 b.1.2.2.2.1 b.2.1.1) fun (d : Int × Bool) => .leaf (Res.mk (AV.r (RV.c (CV.f (FV.i IntKind.i64 d.fst)))) [Ch.set [Sg.c (CV.f (FV.b d.snd))]] [])
  | none => .fail
theorem d_tri_At (g_tri_U : (Nat → Int) → (Nat → Int) → Int → Int → Option Int) (g___fx_Acc__Mul : Int → Int → Int → Bool → Option (Int × Bool)) (g___fx_Acc__Dot : Int → Nat → Nat → Bool → (Nat → Int) → (Nat → Int) → Bool → Bool → Option (Int × Bool)) (l_0 : ∀ {ρ : Type}, (Int × Int × Nat × Nat × Int × Bool × (Nat → Int) × (Nat → Int) × Nat × (Nat → Int) × Nat × (Nat → Int)) → ((Int × Int × Nat × Nat × Int × Bool × Bool × (Nat → Int) × (Nat → Int) × Nat × (Nat → Int) × Nat × (Nat → Int)) → Option ρ) → Option ρ) (x0 : Nat → Int) (x1 : Nat → Int) (x2 : Int) (x3 : Int) (x4 : Bool) : den Try.prog (envOf [(42, F_tri_U g_tri_U), (60, F___fx_Acc__Mul g___fx_Acc__Mul), (61, F___fx_Acc__Dot g___fx_Acc__Dot)]) ⟨[⟨5, [1, 4, 6, 7, 8, 12, 13, 14, 15, 16, 17, 18, 19, 20, 21, 22, 23, 24, 25, 26, 27, 28, 29, 30, 31, 32, 33, 34, 35, 36, 37, 38, 39, 40, 41, 42, 43, 44, 45, 46, 47, 48, 49, 50, 51, 52], [(9, [.i .i64]), (10, [.i .i64])]⟩], [⟨5, 1, @R_tri_At_0 (@l_0)⟩], [0], [], none⟩ 200 46 [.r (.c (.ptr 0 (.k 0) 1)), .r (.agg [.a (.l 276) [.i .i64 x0], .a (.l 24) [.i .i64 x1]]), .r (.c (.f (.i .i64 x2))), .r (.c (.f (.i .i64 x3)))] [[.c (.f (.b x4))]] =
    K_tri_At g_tri_U g___fx_Acc__Mul g___fx_Acc__Dot (@l_0) x0 x1 x2 x3 x4 (fun (d : Int × Bool) => some (Res.mk (AV.r (RV.c (CV.f (FV.i IntKind.i64 d.fst)))) [Ch.set [Sg.c (CV.f (FV.b d.snd))]] [])) := by kernel_rfl
theorem m_tri_At {ρ σ : Type} (q : ρ → Option σ) (g_tri_U : (Nat → Int) → (Nat → Int) → Int → Int → Option Int) (g___fx_Acc__Mul : Int → Int → Int → Bool → Option (Int × Bool)) (g___fx_Acc__Dot : Int → Nat → Nat → Bool → (Nat → Int) → (Nat → Int) → Bool → Bool → Option (Int × Bool)) (l_0 : ∀ {ρ : Type}, (Int × Int × Nat × Nat × Int × Bool × (Nat → Int) × (Nat → Int) × Nat × (Nat → Int) × Nat × (Nat → Int)) → ((Int × Int × Nat × Nat × Int × Bool × Bool × (Nat → Int) × (Nat → Int) × Nat × (Nat → Int) × Nat × (Nat → Int)) → Option ρ) → Option ρ) (hl_0 : ∀ {ρ σ : Type} (q : ρ → Option σ) (d : Int × Int × Nat × Nat × Int × Bool × (Nat → Int) × (Nat → Int) × Nat × (Nat → Int) × Nat × (Nat → Int)) (k : (Int × Int × Nat × Nat × Int × Bool × Bool × (Nat → Int) × (Nat → Int) × Nat × (Nat → Int) × Nat × (Nat → Int)) → Option ρ), (l_0 d k).bind q = l_0 d fun x => (k x).bind q) (x0 : Nat → Int) (x1 : Nat → Int) (x2 : Int) (x3 : Int) (x4 : Bool) (k : (Int × Bool) → Option ρ) : (K_tri_At g_tri_U g___fx_Acc__Mul g___fx_Acc__Dot (@l_0) x0 x1 x2 x3 x4 k).bind q = K_tri_At g_tri_U g___fx_Acc__Mul g___fx_Acc__Dot (@l_0) x0 x1 x2 x3 x4 (fun d => (k d).bind q) := by
  simp only [K_tri_At, bnd_cond, bnd_bind, bnd_none, bnd_sum, hl_0]
theorem qa_tri_At : ∀ b, (QA_tri_At).em b = ([.r (.c (.ptr 0 (.k 0) 1)), .r (.agg [.a (.l 276) [.i .i64 b.1.2.1.1.2.1], .a (.l 24) [.i .i64 b.1.2.1.2.1.2.1]]), .r (.c (.f (.i .i64 b.1.2.2.1))), .r (.c (.f (.i .i64 b.1.2.2.2.1)))], [[.c (.f (.b b.2.1.1))]]) := fun b => by kernel_rfl
theorem e_tri_At {f : (Nat → Int) → (Nat → Int) → (Int) → (Int) → (Bool) → Option (Int × Bool)} {args : List AV} {h : List Blk} {r : Res} (hr : (F_tri_At f args h).eval = some r) : ∃ x0 x1 x2 x3 x4, args = [.r (.c (.ptr 0 (.k 0) 1)), .r (.agg [.a (.l 276) [.i .i64 x0], .a (.l 24) [.i .i64 x1]]), .r (.c (.f (.i .i64 x2))), .r (.c (.f (.i .i64 x3)))] ∧ h = [[.c (.f (.b x4))]] ∧ (f x0 x1 x2 x3 x4).bind (fun (d : Int × Bool) => some (Res.mk (AV.r (RV.c (CV.f (FV.i IntKind.i64 d.fst)))) [Ch.set [Sg.c (CV.f (FV.b d.snd))]] [])) = some r := by
  unfold F_tri_At at hr
  split at hr
  · rename_i b hb
    have e := ((QA_tri_At).ok _ _ hb).trans (qa_tri_At b)
    rw [opt_eval2] at hr
    exact ⟨b.1.2.1.1.2.1, b.1.2.1.2.1.2.1, b.1.2.2.1, b.1.2.2.2.1, b.2.1.1, (Prod.mk.inj e).1, (Prod.mk.inj e).2, hr⟩
  · cases hr
theorem n_tri_At {σ : Type} (q : (Int × Bool) → Option σ) (x0 : Nat → Int) (x1 : Nat → Int) (x2 : Int) (x3 : Int) (x4 : Bool) : (f_tri_At x0 x1 x2 x3 x4).bind q = K_tri_At f_tri_U f___fx_Acc__Mul f___fx_Acc__Dot (@L_tri_At_0) x0 x1 x2 x3 x4 q := by
  unfold f_tri_At
  exact m_tri_At q f_tri_U f___fx_Acc__Mul f___fx_Acc__Dot (@L_tri_At_0) (fun q d k => mL_tri_At_0 q d k) x0 x1 x2 x3 x4 some
theorem s_tri_At : Sound Try.prog 46 (F_tri_At f_tri_At) :=
  (inl_sums (l := [(42, F_tri_U f_tri_U), (60, F___fx_Acc__Mul f___fx_Acc__Mul), (61, F___fx_Acc__Dot f___fx_Acc__Dot)]) (.cons s_tri_U (.cons s___fx_Acc__Mul (.cons s___fx_Acc__Dot (.nil _)))) mixed (hs := ⟨[⟨5, [1, 4, 6, 7, 8, 12, 13, 14, 15, 16, 17, 18, 19, 20, 21, 22, 23, 24, 25, 26, 27, 28, 29, 30, 31, 32, 33, 34, 35, 36, 37, 38, 39, 40, 41, 42, 43, 44, 45, 46, 47, 48, 49, 50, 51, 52], [(9, [.i .i64]), (10, [.i .i64])]⟩], [⟨5, 1, @R_tri_At_0 (@L_tri_At_0)⟩], [0], [], none⟩) (lf := 200) (Sums.by (l := [loopIn Try.prog 46 5]) (lj := []) (by kernel_rfl) ⟨so_tri_At_0, trivial⟩ (by kernel_rfl) trivial) (by kernel_rfl)).by (F := F_tri_At f_tri_At) fun args b r hr => by
  obtain ⟨x0, x1, x2, x3, x4, rfl, rfl, hr1⟩ := e_tri_At hr
  exact inl_eval ((d_tri_At f_tri_U f___fx_Acc__Mul f___fx_Acc__Dot (@L_tri_At_0) x0 x1 x2 x3 x4).trans ((n_tri_At (fun (d : Int × Bool) => some (Res.mk (AV.r (RV.c (CV.f (FV.i IntKind.i64 d.fst)))) [Ch.set [Sg.c (CV.f (FV.b d.snd))]] [])) x0 x1 x2 x3 x4).symm.trans hr1))

def S_tri_Diag_0 {ρ : Type} (g_tri_At : (Nat → Int) → (Nat → Int) → Int → Int → Bool → Option (Int × Bool))  (x0 : Int) (x1 : Bool) (x2 : Nat → Int) (x3 : Nat → Int) (x4 : Nat → Int) (x5 : Nat → Int) (c : (Int × Bool × (Nat → Int) × (Nat → Int) × (Nat → Int) × (Nat → Int)) → Option ρ) (x : (Int × Bool × Bool × (Nat → Int) × (Nat → Int) × (Nat → Int) × (Nat → Int)) → Option ρ) : Option ρ :=
  bif decide (x0 < 24) then
    Option.bind (g_tri_At x2 x3 x0 x0 x1) fun (d : Int × Bool) =>
      bif inR x0 24 then
        bif true && Nat.ble (0 + Int.toNat x0 * 1 + 1) 24 then c (IntKind.wrap IntKind.i64 (x0 + 1), d.snd, x2, x3, x4, fun (j : Nat) => bif Nat.beq j (Int.toNat x0) then d.fst else x5 j) else none
      else none
  else x (x0, decide (x0 < 24), x1, x2, x3, x4, x5)
section
open Go.Ab.Rdr
def Q_tri_Diag_0 := (st (cons (ar (rc (cptr (nat 0) (ok' (nat 0)) (nat 1)))) (cons aund (cons aund (cons (ar (rc (cptr (nat 1) (ok' (nat 0)) (nat 300)))) (cons (ar (rc (cptr (nat 2) (ok' (nat 0)) (nat 24)))) (cons (ar (rc (cptr (nat 3) (ok' (nat 0)) (nat 24)))) (cons aund (cons (ar (rc (cf (fi .i64 hole)))) (cons aund (cons aund (cons aund (cons aund (cons aund (cons aund (cons aund (cons aund (cons aund (cons aund (cons aund nil))))))))))))))))))) (cons (some' (cons (gc (cf (fb hole))) nil)) (cons (some' (cons (ga (szl (nat 276)) (cons (ki .i64 hole) nil)) (cons (ga (szl (nat 24)) (cons (ki .i64 hole) nil)) nil))) (cons (some' (cons (ga (szl (nat 24)) (cons (ki .i64 hole) nil)) nil)) (cons (some' (cons (ga (szl (nat 24)) (cons (ki .i64 hole) nil)) nil)) nil)))) (cons (nat 0) nil))
end
theorem q_tri_Diag_0 : ∀ b, (Q_tri_Diag_0).em b = St.mk
    [AV.r (RV.c (CV.ptr 0 (Off.k 0) 1)), AV.und, AV.und, AV.r (RV.c (CV.ptr 1 (Off.k 0) 300)), AV.r (RV.c (CV.ptr 2 (Off.k 0) 24)), AV.r (RV.c (CV.ptr 3 (Off.k 0) 24)), AV.und,
      AV.r (RV.c (CV.f (FV.i IntKind.i64 b.1.2.2.2.2.2.2.2.1))), AV.und, AV.und, AV.und, AV.und, AV.und, AV.und, AV.und, AV.und, AV.und, AV.und, AV.und]
    [some [Sg.c (CV.f (FV.b b.2.1.1.1))], some [Sg.a (Sz.l 276) [Col.i IntKind.i64 b.2.1.2.1.1.2.1], Sg.a (Sz.l 24) [Col.i IntKind.i64 b.2.1.2.1.2.1.2.1]], some [Sg.a (Sz.l 24) [Col.i IntKind.i64 b.2.1.2.2.1.1.2.1]],
      some [Sg.a (Sz.l 24) [Col.i IntKind.i64 b.2.1.2.2.2.1.1.2.1]]]
    [0] := fun b => by kernel_rfl
def R_tri_Diag_0 (l : ∀ {ρ : Type}, (Int × Bool × (Nat → Int) × (Nat → Int) × (Nat → Int) × (Nat → Int)) → ((Int × Bool × Bool × (Nat → Int) × (Nat → Int) × (Nat → Int) × (Nat → Int)) → Option ρ) → Option ρ) {ρ : Type} (s : St) (K : AX → St → Option ρ) : Option ρ := ((Q_tri_Diag_0).rd s).bind fun b => l (b.1.2.2.2.2.2.2.2.1, b.2.1.1.1, b.2.1.2.1.1.2.1, b.2.1.2.1.2.1.2.1, b.2.1.2.2.1.1.2.1, b.2.1.2.2.2.1.1.2.1) (fun d => K (AX.ex 0) (St.mk
  [AV.r (RV.c (CV.ptr 0 (Off.k 0) 1)), AV.und, AV.und, AV.r (RV.c (CV.ptr 1 (Off.k 0) 300)), AV.r (RV.c (CV.ptr 2 (Off.k 0) 24)), AV.r (RV.c (CV.ptr 3 (Off.k 0) 24)), AV.und,
    AV.r (RV.c (CV.f (FV.i IntKind.i64 d.fst))), AV.r (RV.c (CV.f (FV.b d.snd.fst))), AV.und, AV.und, AV.und, AV.und, AV.und, AV.und, AV.und, AV.und, AV.und, AV.und]
  [some [Sg.c (CV.f (FV.b d.snd.snd.fst))], some [Sg.a (Sz.l 276) [Col.i IntKind.i64 d.snd.snd.snd.fst], Sg.a (Sz.l 24) [Col.i IntKind.i64 d.snd.snd.snd.snd.fst]],
    some [Sg.a (Sz.l 24) [Col.i IntKind.i64 d.snd.snd.snd.snd.snd.fst]], some [Sg.a (Sz.l 24) [Col.i IntKind.i64 d.snd.snd.snd.snd.snd.snd]]]
  [0]))
theorem ms_tri_Diag_0 {ρ σ : Type} (g_tri_At : (Nat → Int) → (Nat → Int) → Int → Int → Bool → Option (Int × Bool))   (q : ρ → Option σ) (x0 : Int) (x1 : Bool) (x2 : Nat → Int) (x3 : Nat → Int) (x4 : Nat → Int) (x5 : Nat → Int) (c : (Int × Bool × (Nat → Int) × (Nat → Int) × (Nat → Int) × (Nat → Int)) → Option ρ) (x : (Int × Bool × Bool × (Nat → Int) × (Nat → Int) × (Nat → Int) × (Nat → Int)) → Option ρ) : (S_tri_Diag_0 g_tri_At  x0 x1 x2 x3 x4 x5 c x).bind q = S_tri_Diag_0 g_tri_At  x0 x1 x2 x3 x4 x5 (fun d => (c d).bind q) (fun d => (x d).bind q) := by
  simp only [S_tri_Diag_0, bnd_cond, bnd_bind, bnd_none, bnd_sum]
def L_tri_Diag_0 {ρ : Type} (d : Int × Bool × (Nat → Int) × (Nat → Int) × (Nat → Int) × (Nat → Int)) (k : (Int × Bool × Bool × (Nat → Int) × (Nat → Int) × (Nat → Int) × (Nat → Int)) → Option ρ) : Option ρ := loopK (fun d c x => S_tri_Diag_0 f_tri_At  d.1 d.2.1 d.2.2.1 d.2.2.2.1 d.2.2.2.2.1 d.2.2.2.2.2 c x) 200 d k
theorem mL_tri_Diag_0 {ρ σ : Type} (q : ρ → Option σ) (d : Int × Bool × (Nat → Int) × (Nat → Int) × (Nat → Int) × (Nat → Int)) (k : (Int × Bool × Bool × (Nat → Int) × (Nat → Int) × (Nat → Int) × (Nat → Int)) → Option ρ) : (L_tri_Diag_0 d k).bind q = L_tri_Diag_0 d fun x => (k x).bind q :=
  loopK_bind q (fun d c x => ms_tri_Diag_0 f_tri_At   q d.1 d.2.1 d.2.2.1 d.2.2.2.1 d.2.2.2.2.1 d.2.2.2.2.2 c x) k _ d
theorem ds_tri_Diag_0 {ρ : Type} (g_tri_At : (Nat → Int) → (Nat → Int) → Int → Int → Bool → Option (Int × Bool)) (l_0 : ∀ {ρ : Type}, (Int × Bool × (Nat → Int) × (Nat → Int) × (Nat → Int) × (Nat → Int)) → ((Int × Bool × Bool × (Nat → Int) × (Nat → Int) × (Nat → Int) × (Nat → Int)) → Option ρ) → Option ρ) (x0 : Int) (x1 : Bool) (x2 : Nat → Int) (x3 : Nat → Int) (x4 : Nat → Int) (x5 : Nat → Int) (c : St → Option ρ) (K : AX → St → Option ρ) :
    runC Try.prog (envOf [(46, F_tri_At g_tri_At)]) ⟨[⟨3, [1, 2, 6, 8, 9, 10, 11, 12, 13, 14, 15, 16, 17, 18], []⟩], [⟨3, 1, @R_tri_Diag_0 (@l_0)⟩], [0], [], none⟩ (tmpsOf Try.prog 50) 1 200 (loopIn Try.prog 50 3)
      (St.mk
    [AV.r (RV.c (CV.ptr 0 (Off.k 0) 1)), AV.und, AV.und, AV.r (RV.c (CV.ptr 1 (Off.k 0) 300)), AV.r (RV.c (CV.ptr 2 (Off.k 0) 24)), AV.r (RV.c (CV.ptr 3 (Off.k 0) 24)), AV.und,
      AV.r (RV.c (CV.f (FV.i IntKind.i64 x0))), AV.und, AV.und, AV.und, AV.und, AV.und, AV.und, AV.und, AV.und, AV.und, AV.und, AV.und]
    [some [Sg.c (CV.f (FV.b x1))], some [Sg.a (Sz.l 276) [Col.i IntKind.i64 x2], Sg.a (Sz.l 24) [Col.i IntKind.i64 x3]], some [Sg.a (Sz.l 24) [Col.i IntKind.i64 x4]],
      some [Sg.a (Sz.l 24) [Col.i IntKind.i64 x5]]]
    [0])
      (next (fun t => t.head 1 ⟨[⟨3, [1, 2, 6, 8, 9, 10, 11, 12, 13, 14, 15, 16, 17, 18], []⟩], [⟨3, 1, @R_tri_Diag_0 (@l_0)⟩], [0], [], none⟩ (loopIn Try.prog 50 3)) c K) =
    S_tri_Diag_0 g_tri_At  x0 x1 x2 x3 x4 x5 (fun d => c (St.mk
  [AV.r (RV.c (CV.ptr 0 (Off.k 0) 1)), AV.und, AV.und, AV.r (RV.c (CV.ptr 1 (Off.k 0) 300)), AV.r (RV.c (CV.ptr 2 (Off.k 0) 24)), AV.r (RV.c (CV.ptr 3 (Off.k 0) 24)), AV.und,
    AV.r (RV.c (CV.f (FV.i IntKind.i64 d.fst))), AV.und, AV.und, AV.und, AV.und, AV.und, AV.und, AV.und, AV.und, AV.und, AV.und, AV.und]
  [some [Sg.c (CV.f (FV.b d.snd.fst))], some [Sg.a (Sz.l 276) [Col.i IntKind.i64 d.snd.snd.fst], Sg.a (Sz.l 24) [Col.i IntKind.i64 d.snd.snd.snd.fst]],
    some [Sg.a (Sz.l 24) [Col.i IntKind.i64 d.snd.snd.snd.snd.fst]], some [Sg.a (Sz.l 24) [Col.i IntKind.i64 d.snd.snd.snd.snd.snd]]]
  [0])) (fun d => K (AX.ex 0) (St.mk
  [AV.r (RV.c (CV.ptr 0 (Off.k 0) 1)), AV.und, AV.und, AV.r (RV.c (CV.ptr 1 (Off.k 0) 300)), AV.r (RV.c (CV.ptr 2 (Off.k 0) 24)), AV.r (RV.c (CV.ptr 3 (Off.k 0) 24)), AV.und,
    AV.r (RV.c (CV.f (FV.i IntKind.i64 d.fst))), AV.r (RV.c (CV.f (FV.b d.snd.fst))), AV.und, AV.und, AV.und, AV.und, AV.und, AV.und, AV.und, AV.und, AV.und, AV.und]
  [some [Sg.c (CV.f (FV.b d.snd.snd.fst))], some [Sg.a (Sz.l 276) [Col.i IntKind.i64 d.snd.snd.snd.fst], Sg.a (Sz.l 24) [Col.i IntKind.i64 d.snd.snd.snd.snd.fst]],
    some [Sg.a (Sz.l 24) [Col.i IntKind.i64 d.snd.snd.snd.snd.snd.fst]], some [Sg.a (Sz.l 24) [Col.i IntKind.i64 d.snd.snd.snd.snd.snd.snd]]]
  [0])) := by kernel_rfl
theorem it_tri_Diag_0 {ρ : Type} (x0 : Int) (x1 : Bool) (x2 : Nat → Int) (x3 : Nat → Int) (x4 : Nat → Int) (x5 : Nat → Int) (K : AX → St → Option ρ) :
    iter (fun t => t.head 1 ⟨[⟨3, [1, 2, 6, 8, 9, 10, 11, 12, 13, 14, 15, 16, 17, 18], []⟩], [⟨3, 1, @R_tri_Diag_0 (@L_tri_Diag_0)⟩], [0], [], none⟩ (loopIn Try.prog 50 3)) (runC Try.prog (envOf [(46, F_tri_At f_tri_At)]) ⟨[⟨3, [1, 2, 6, 8, 9, 10, 11, 12, 13, 14, 15, 16, 17, 18], []⟩], [⟨3, 1, @R_tri_Diag_0 (@L_tri_Diag_0)⟩], [0], [], none⟩ (tmpsOf Try.prog 50) 1 200 (loopIn Try.prog 50 3)) K 200
      (St.mk
    [AV.r (RV.c (CV.ptr 0 (Off.k 0) 1)), AV.und, AV.und, AV.r (RV.c (CV.ptr 1 (Off.k 0) 300)), AV.r (RV.c (CV.ptr 2 (Off.k 0) 24)), AV.r (RV.c (CV.ptr 3 (Off.k 0) 24)), AV.und,
      AV.r (RV.c (CV.f (FV.i IntKind.i64 x0))), AV.und, AV.und, AV.und, AV.und, AV.und, AV.und, AV.und, AV.und, AV.und, AV.und, AV.und]
    [some [Sg.c (CV.f (FV.b x1))], some [Sg.a (Sz.l 276) [Col.i IntKind.i64 x2], Sg.a (Sz.l 24) [Col.i IntKind.i64 x3]], some [Sg.a (Sz.l 24) [Col.i IntKind.i64 x4]],
      some [Sg.a (Sz.l 24) [Col.i IntKind.i64 x5]]]
    [0]) = L_tri_Diag_0 (x0, x1, x2, x3, x4, x5) (fun d => K (AX.ex 0) (St.mk
  [AV.r (RV.c (CV.ptr 0 (Off.k 0) 1)), AV.und, AV.und, AV.r (RV.c (CV.ptr 1 (Off.k 0) 300)), AV.r (RV.c (CV.ptr 2 (Off.k 0) 24)), AV.r (RV.c (CV.ptr 3 (Off.k 0) 24)), AV.und,
    AV.r (RV.c (CV.f (FV.i IntKind.i64 d.fst))), AV.r (RV.c (CV.f (FV.b d.snd.fst))), AV.und, AV.und, AV.und, AV.und, AV.und, AV.und, AV.und, AV.und, AV.und, AV.und]
  [some [Sg.c (CV.f (FV.b d.snd.snd.fst))], some [Sg.a (Sz.l 276) [Col.i IntKind.i64 d.snd.snd.snd.fst], Sg.a (Sz.l 24) [Col.i IntKind.i64 d.snd.snd.snd.snd.fst]],
    some [Sg.a (Sz.l 24) [Col.i IntKind.i64 d.snd.snd.snd.snd.snd.fst]], some [Sg.a (Sz.l 24) [Col.i IntKind.i64 d.snd.snd.snd.snd.snd.snd]]]
  [0])) :=
  iter_loopX (emb := fun (d : Int × Bool × (Nat → Int) × (Nat → Int) × (Nat → Int) × (Nat → Int)) => St.mk
  [AV.r (RV.c (CV.ptr 0 (Off.k 0) 1)), AV.und, AV.und, AV.r (RV.c (CV.ptr 1 (Off.k 0) 300)), AV.r (RV.c (CV.ptr 2 (Off.k 0) 24)), AV.r (RV.c (CV.ptr 3 (Off.k 0) 24)), AV.und,
    AV.r (RV.c (CV.f (FV.i IntKind.i64 d.fst))), AV.und, AV.und, AV.und, AV.und, AV.und, AV.und, AV.und, AV.und, AV.und, AV.und, AV.und]
  [some [Sg.c (CV.f (FV.b d.snd.fst))], some [Sg.a (Sz.l 276) [Col.i IntKind.i64 d.snd.snd.fst], Sg.a (Sz.l 24) [Col.i IntKind.i64 d.snd.snd.snd.fst]],
    some [Sg.a (Sz.l 24) [Col.i IntKind.i64 d.snd.snd.snd.snd.fst]], some [Sg.a (Sz.l 24) [Col.i IntKind.i64 d.snd.snd.snd.snd.snd]]]
  [0]) (step := fun d c x => S_tri_Diag_0 f_tri_At  d.1 d.2.1 d.2.2.1 d.2.2.2.1 d.2.2.2.2.1 d.2.2.2.2.2 c x) (kx := (fun d => K (AX.ex 0) (St.mk
  [AV.r (RV.c (CV.ptr 0 (Off.k 0) 1)), AV.und, AV.und, AV.r (RV.c (CV.ptr 1 (Off.k 0) 300)), AV.r (RV.c (CV.ptr 2 (Off.k 0) 24)), AV.r (RV.c (CV.ptr 3 (Off.k 0) 24)), AV.und,
    AV.r (RV.c (CV.f (FV.i IntKind.i64 d.fst))), AV.r (RV.c (CV.f (FV.b d.snd.fst))), AV.und, AV.und, AV.und, AV.und, AV.und, AV.und, AV.und, AV.und, AV.und, AV.und]
  [some [Sg.c (CV.f (FV.b d.snd.snd.fst))], some [Sg.a (Sz.l 276) [Col.i IntKind.i64 d.snd.snd.snd.fst], Sg.a (Sz.l 24) [Col.i IntKind.i64 d.snd.snd.snd.snd.fst]],
    some [Sg.a (Sz.l 24) [Col.i IntKind.i64 d.snd.snd.snd.snd.snd.fst]], some [Sg.a (Sz.l 24) [Col.i IntKind.i64 d.snd.snd.snd.snd.snd.snd]]]
  [0])))
    (fun d c => ds_tri_Diag_0 f_tri_At (@L_tri_Diag_0) d.1 d.2.1 d.2.2.1 d.2.2.2.1 d.2.2.2.2.1 d.2.2.2.2.2 c K) 200 (x0, x1, x2, x3, x4, x5)
theorem so_tri_Diag_0 : ∀ kk, SumOK Try.prog (envOf [(46, F_tri_At f_tri_At)]) ⟨[⟨3, [1, 2, 6, 8, 9, 10, 11, 12, 13, 14, 15, 16, 17, 18], []⟩], [⟨3, 1, @R_tri_Diag_0 (@L_tri_Diag_0)⟩], [0], [], none⟩ (tmpsOf Try.prog 50) kk 200 (loopIn Try.prog 50 3) :=
  SumOK.of (id := 3) (k0 := 1) (run := @R_tri_Diag_0 (@L_tri_Diag_0)) (by kernel_rfl) fun s K r hr => by
    unfold R_tri_Diag_0 at hr
    obtain ⟨b, hb, hr1⟩ := Option.bind_eq_some_iff.1 hr
    have e := ((Q_tri_Diag_0).ok s b hb).trans (q_tri_Diag_0 b)
    subst e
    exact ⟨200, (it_tri_Diag_0 b.1.2.2.2.2.2.2.2.1 b.2.1.1.1 b.2.1.2.1.1.2.1 b.2.1.2.1.2.1.2.1 b.2.1.2.2.1.1.2.1 b.2.1.2.2.2.1.1.2.1 K).trans hr1⟩
def K_tri_Diag {ρ : Type} (g_tri_At : (Nat → Int) → (Nat → Int) → Int → Int → Bool → Option (Int × Bool)) (l_0 : ∀ {ρ : Type}, (Int × Bool × (Nat → Int) × (Nat → Int) × (Nat → Int) × (Nat → Int)) → ((Int × Bool × Bool × (Nat → Int) × (Nat → Int) × (Nat → Int) × (Nat → Int)) → Option ρ) → Option ρ) (x0 : Nat → Int) (x1 : Nat → Int) (x2 : Bool) (k : ((Nat → Int) × Bool) → Option ρ) : Option ρ :=
  l_0 (0, x2, x0, x1, fun (x : Nat) => 0, fun (x : Nat) => 0) fun (d : Int × Bool × Bool × (Nat → Int) × (Nat → Int) × (Nat → Int) × (Nat → Int)) => k (d.snd.snd.snd.snd.snd.2, d.snd.snd.fst)
def f_tri_Diag (x0 : Nat → Int) (x1 : Nat → Int) (x2 : Bool) : Option ((Nat → Int) × Bool) := K_tri_Diag f_tri_At (@L_tri_Diag_0) x0 x1 x2 some
section
open Go.Ab.Rdr
def QA_tri_Diag := ((pair (cons (ar (rc (cptr (nat 0) (ok' (nat 0)) (nat 1)))) (cons (ar (ra (cons (ga (szl (nat 276)) (cons (ki .i64 hole) nil)) (cons (ga (szl (nat 24)) (cons (ki .i64 hole) nil)) nil)))) nil)) (cons (cons (gc (cf (fb hole))) nil) nil)) : Rdr (List AV × List Blk) _)
end
def F_tri_Diag (f : (Nat → Int) → (Nat → Int) → (Bool) → Option ((Nat → Int) × Bool)) : Sem1 := fun args h => match (QA_tri_Diag).rd (args, h) with
  | some b => .opt (f b.1.2.1.1.2.1 b.1.2.1.2.1.2.1 b.2.1.1) fun (d : (Nat → Int) × Bool) => .leaf (Res.mk (AV.r (RV.agg [Sg.a (Sz.l 24) [Col.i IntKind.i64 d.fst]])) [Ch.set [Sg.c (CV.f (FV.b d.snd))]] [])
  | none => .fail
theorem d_tri_Diag (g_tri_At : (Nat → Int) → (Nat → Int) → Int → Int → Bool → Option (Int × Bool)) (l_0 : ∀ {ρ : Type}, (Int × Bool × (Nat → Int) × (Nat → Int) × (Nat → Int) × (Nat → Int)) → ((Int × Bool × Bool × (Nat → Int) × (Nat → Int) × (Nat → Int) × (Nat → Int)) → Option ρ) → Option ρ) (x0 : Nat → Int) (x1 : Nat → Int) (x2 : Bool) : den Try.prog (envOf [(46, F_tri_At g_tri_At)]) ⟨[⟨3, [1, 2, 6, 8, 9, 10, 11, 12, 13, 14, 15, 16, 17, 18], []⟩], [⟨3, 1, @R_tri_Diag_0 (@l_0)⟩], [0], [], none⟩ 200 50 [.r (.c (.ptr 0 (.k 0) 1)), .r (.agg [.a (.l 276) [.i .i64 x0], .a (.l 24) [.i .i64 x1]])] [[.c (.f (.b x2))]] =
    K_tri_Diag g_tri_At (@l_0) x0 x1 x2 (fun (d : (Nat → Int) × Bool) => some (Res.mk (AV.r (RV.agg [Sg.a (Sz.l 24) [Col.i IntKind.i64 d.fst]])) [Ch.set [Sg.c (CV.f (FV.b d.snd))]] [])) := by kernel_rfl
theorem m_tri_Diag {ρ σ : Type} (q : ρ → Option σ) (g_tri_At : (Nat → Int) → (Nat → Int) → Int → Int → Bool → Option (Int × Bool)) (l_0 : ∀ {ρ : Type}, (Int × Bool × (Nat → Int) × (Nat → Int) × (Nat → Int) × (Nat → Int)) → ((Int × Bool × Bool × (Nat → Int) × (Nat → Int) × (Nat → Int) × (Nat → Int)) → Option ρ) → Option ρ) (hl_0 : ∀ {ρ σ : Type} (q : ρ → Option σ) (d : Int × Bool × (Nat → Int) × (Nat → Int) × (Nat → Int) × (Nat → Int)) (k : (Int × Bool × Bool × (Nat → Int) × (Nat → Int) × (Nat → Int) × (Nat → Int)) → Option ρ), (l_0 d k).bind q = l_0 d fun x => (k x).bind q) (x0 : Nat → Int) (x1 : Nat → Int) (x2 : Bool) (k : ((Nat → Int) × Bool) → Option ρ) : (K_tri_Diag g_tri_At (@l_0) x0 x1 x2 k).bind q = K_tri_Diag g_tri_At (@l_0) x0 x1 x2 (fun d => (k d).bind q) := by
  simp only [K_tri_Diag, bnd_cond, bnd_bind, bnd_none, bnd_sum, hl_0]
theorem qa_tri_Diag : ∀ b, (QA_tri_Diag).em b = ([.r (.c (.ptr 0 (.k 0) 1)), .r (.agg [.a (.l 276) [.i .i64 b.1.2.1.1.2.1], .a (.l 24) [.i .i64 b.1.2.1.2.1.2.1]])], [[.c (.f (.b b.2.1.1))]]) := fun b => by kernel_rfl
theorem e_tri_Diag {f : (Nat → Int) → (Nat → Int) → (Bool) → Option ((Nat → Int) × Bool)} {args : List AV} {h : List Blk} {r : Res} (hr : (F_tri_Diag f args h).eval = some r) : ∃ x0 x1 x2, args = [.r (.c (.ptr 0 (.k 0) 1)), .r (.agg [.a (.l 276) [.i .i64 x0], .a (.l 24) [.i .i64 x1]])] ∧ h = [[.c (.f (.b x2))]] ∧ (f x0 x1 x2).bind (fun (d : (Nat → Int) × Bool) => some (Res.mk (AV.r (RV.agg [Sg.a (Sz.l 24) [Col.i IntKind.i64 d.fst]])) [Ch.set [Sg.c (CV.f (FV.b d.snd))]] [])) = some r := by
  unfold F_tri_Diag at hr
  split at hr
  · rename_i b hb
    have e := ((QA_tri_Diag).ok _ _ hb).trans (qa_tri_Diag b)
    rw [opt_eval2] at hr
    exact ⟨b.1.2.1.1.2.1, b.1.2.1.2.1.2.1, b.2.1.1, (Prod.mk.inj e).1, (Prod.mk.inj e).2, hr⟩
  · cases hr
theorem n_tri_Diag {σ : Type} (q : ((Nat → Int) × Bool) → Option σ) (x0 : Nat → Int) (x1 : Nat → Int) (x2 : Bool) : (f_tri_Diag x0 x1 x2).bind q = K_tri_Diag f_tri_At (@L_tri_Diag_0) x0 x1 x2 q := by
  unfold f_tri_Diag
  exact m_tri_Diag q f_tri_At (@L_tri_Diag_0) (fun q d k => mL_tri_Diag_0 q d k) x0 x1 x2 some
theorem s_tri_Diag : Sound Try.prog 50 (F_tri_Diag f_tri_Diag) :=
  (inl_sums (l := [(46, F_tri_At f_tri_At)]) (.cons s_tri_At (.nil _)) mixed (hs := ⟨[⟨3, [1, 2, 6, 8, 9, 10, 11, 12, 13, 14, 15, 16, 17, 18], []⟩], [⟨3, 1, @R_tri_Diag_0 (@L_tri_Diag_0)⟩], [0], [], none⟩) (lf := 200) (Sums.by (l := [loopIn Try.prog 50 3]) (lj := []) (by kernel_rfl) ⟨so_tri_Diag_0, trivial⟩ (by kernel_rfl) trivial) (by kernel_rfl)).by (F := F_tri_Diag f_tri_Diag) fun args b r hr => by
  obtain ⟨x0, x1, x2, rfl, rfl, hr1⟩ := e_tri_Diag hr
  exact inl_eval ((d_tri_Diag f_tri_At (@L_tri_Diag_0) x0 x1 x2).trans ((n_tri_Diag (fun (d : (Nat → Int) × Bool) => some (Res.mk (AV.r (RV.agg [Sg.a (Sz.l 24) [Col.i IntKind.i64 d.fst]])) [Ch.set [Sg.c (CV.f (FV.b d.snd))]] [])) x0 x1 x2).symm.trans hr1))

def S_tri_Condition_0 {ρ : Type} (g_tri_variance : Int → Bool → Option (Int × Bool)) (g___fx_Acc__Clamp : Int → Int → Int → Bool → Option (Int × Bool))  (x0 : Int) (x1 : Bool) (x2 : Nat → Int) (x3 : Nat → Int) (x4 : Nat → Int) (x5 : Nat → Int) (c : (Int × Bool × (Nat → Int) × (Nat → Int) × (Nat → Int) × (Nat → Int)) → Option ρ) (x : (Int × Bool × Bool × (Nat → Int) × (Nat → Int) × (Nat → Int) × (Nat → Int)) → Option ρ) : Option ρ :=
  bif decide (x0 < 24) then
    bif inR x0 24 then
      Option.bind (g_tri_variance (x3 (Int.toNat x0)) x1) fun (d : Int × Bool) =>
        bif inR x0 24 then
          bif true && Nat.ble (276 + Int.toNat x0 * 1 + 1) 300 then c (IntKind.wrap IntKind.i64 (x0 + 1), d.snd, x2, fun (j : Nat) => bif Nat.beq j (Int.toNat x0) then d.fst else x3 j, x4, x5) else none
        else none
    else none
  else x (x0, decide (x0 < 24), x1, x2, x3, x4, x5)
section
open Go.Ab.Rdr
def Q_tri_Condition_0 := (st (cons (ar (rc (cptr (nat 0) (ok' (nat 0)) (nat 1)))) (cons aund (cons aund (cons (ar (rc (cptr (nat 1) (ok' (nat 0)) (nat 300)))) (cons (ar (rc (cptr (nat 2) (ok' (nat 0)) (nat 300)))) (cons aund (cons aund (cons (ar (rc (cf (fi .i64 hole)))) (cons aund (cons aund (cons aund (cons aund (cons aund (cons aund (cons aund (cons aund (cons aund (cons aund (cons aund (cons aund (cons aund (cons aund (cons aund (cons aund (cons aund (cons aund (cons aund (cons aund (cons aund (cons aund (cons aund (cons aund (cons aund (cons aund nil)))))))))))))))))))))))))))))))))) (cons (some' (cons (gc (cf (fb hole))) nil)) (cons (some' (cons (ga (szl (nat 276)) (cons (ki .i64 hole) nil)) (cons (ga (szl (nat 24)) (cons (ki .i64 hole) nil)) nil))) (cons (some' (cons (ga (szl (nat 276)) (cons (ki .i64 hole) nil)) (cons (ga (szl (nat 24)) (cons (ki .i64 hole) nil)) nil))) nil))) (cons (nat 0) nil))
end
theorem q_tri_Condition_0 : ∀ b, (Q_tri_Condition_0).em b = St.mk
    [AV.r (RV.c (CV.ptr 0 (Off.k 0) 1)), AV.und, AV.und, AV.r (RV.c (CV.ptr 1 (Off.k 0) 300)), AV.r (RV.c (CV.ptr 2 (Off.k 0) 300)), AV.und, AV.und, AV.r (RV.c (CV.f (FV.i IntKind.i64 b.1.2.2.2.2.2.2.2.1))), AV.und,
      AV.und, AV.und, AV.und, AV.und, AV.und, AV.und, AV.und, AV.und, AV.und, AV.und, AV.und, AV.und, AV.und, AV.und, AV.und, AV.und, AV.und, AV.und, AV.und, AV.und, AV.und, AV.und, AV.und, AV.und,
      AV.und]
    [some [Sg.c (CV.f (FV.b b.2.1.1.1))], some [Sg.a (Sz.l 276) [Col.i IntKind.i64 b.2.1.2.1.1.2.1], Sg.a (Sz.l 24) [Col.i IntKind.i64 b.2.1.2.1.2.1.2.1]],
      some [Sg.a (Sz.l 276) [Col.i IntKind.i64 b.2.1.2.2.1.1.2.1], Sg.a (Sz.l 24) [Col.i IntKind.i64 b.2.1.2.2.1.2.1.2.1]]]
    [0] := fun b => by kernel_rfl
def R_tri_Condition_0 (l : ∀ {ρ : Type}, (Int × Bool × (Nat → Int) × (Nat → Int) × (Nat → Int) × (Nat → Int)) → ((Int × Bool × Bool × (Nat → Int) × (Nat → Int) × (Nat → Int) × (Nat → Int)) → Option ρ) → Option ρ) {ρ : Type} (s : St) (K : AX → St → Option ρ) : Option ρ := ((Q_tri_Condition_0).rd s).bind fun b => l (b.1.2.2.2.2.2.2.2.1, b.2.1.1.1, b.2.1.2.1.1.2.1, b.2.1.2.1.2.1.2.1, b.2.1.2.2.1.1.2.1, b.2.1.2.2.1.2.1.2.1) (fun d => K (AX.ex 0) (St.mk
  [AV.r (RV.c (CV.ptr 0 (Off.k 0) 1)), AV.und, AV.und, AV.r (RV.c (CV.ptr 1 (Off.k 0) 300)), AV.r (RV.c (CV.ptr 2 (Off.k 0) 300)), AV.und, AV.und, AV.r (RV.c (CV.f (FV.i IntKind.i64 d.fst))),
    AV.r (RV.c (CV.f (FV.b d.snd.fst))), AV.und, AV.und, AV.und, AV.und, AV.und, AV.und, AV.und, AV.und, AV.und, AV.und, AV.und, AV.und, AV.und, AV.und, AV.und, AV.und, AV.und, AV.und, AV.und, AV.und,
    AV.und, AV.und, AV.und, AV.und, AV.und]
  [some [Sg.c (CV.f (FV.b d.snd.snd.fst))], some [Sg.a (Sz.l 276) [Col.i IntKind.i64 d.snd.snd.snd.fst], Sg.a (Sz.l 24) [Col.i IntKind.i64 d.snd.snd.snd.snd.fst]],
    some [Sg.a (Sz.l 276) [Col.i IntKind.i64 d.snd.snd.snd.snd.snd.fst], Sg.a (Sz.l 24) [Col.i IntKind.i64 d.snd.snd.snd.snd.snd.snd]]]
  [0]))
theorem ms_tri_Condition_0 {ρ σ : Type} (g_tri_variance : Int → Bool → Option (Int × Bool)) (g___fx_Acc__Clamp : Int → Int → Int → Bool → Option (Int × Bool))   (q : ρ → Option σ) (x0 : Int) (x1 : Bool) (x2 : Nat → Int) (x3 : Nat → Int) (x4 : Nat → Int) (x5 : Nat → Int) (c : (Int × Bool × (Nat → Int) × (Nat → Int) × (Nat → Int) × (Nat → Int)) → Option ρ) (x : (Int × Bool × Bool × (Nat → Int) × (Nat → Int) × (Nat → Int) × (Nat → Int)) → Option ρ) : (S_tri_Condition_0 g_tri_variance g___fx_Acc__Clamp  x0 x1 x2 x3 x4 x5 c x).bind q = S_tri_Condition_0 g_tri_variance g___fx_Acc__Clamp  x0 x1 x2 x3 x4 x5 (fun d => (c d).bind q) (fun d => (x d).bind q) := by
  simp only [S_tri_Condition_0, bnd_cond, bnd_bind, bnd_none, bnd_sum]
def L_tri_Condition_0 {ρ : Type} (d : Int × Bool × (Nat → Int) × (Nat → Int) × (Nat → Int) × (Nat → Int)) (k : (Int × Bool × Bool × (Nat → Int) × (Nat → Int) × (Nat → Int) × (Nat → Int)) → Option ρ) : Option ρ := loopK (fun d c x => S_tri_Condition_0 f_tri_variance f___fx_Acc__Clamp  d.1 d.2.1 d.2.2.1 d.2.2.2.1 d.2.2.2.2.1 d.2.2.2.2.2 c x) 1000 d k
theorem mL_tri_Condition_0 {ρ σ : Type} (q : ρ → Option σ) (d : Int × Bool × (Nat → Int) × (Nat → Int) × (Nat → Int) × (Nat → Int)) (k : (Int × Bool × Bool × (Nat → Int) × (Nat → Int) × (Nat → Int) × (Nat → Int)) → Option ρ) : (L_tri_Condition_0 d k).bind q = L_tri_Condition_0 d fun x => (k x).bind q :=
  loopK_bind q (fun d c x => ms_tri_Condition_0 f_tri_variance f___fx_Acc__Clamp   q d.1 d.2.1 d.2.2.1 d.2.2.2.1 d.2.2.2.2.1 d.2.2.2.2.2 c x) k _ d
def S_tri_Condition_1 {ρ : Type} (g_tri_variance : Int → Bool → Option (Int × Bool)) (g___fx_Acc__Clamp : Int → Int → Int → Bool → Option (Int × Bool))  (x0 : Int) (x1 : Bool) (x2 : Nat → Int) (x3 : Nat → Int) (x4 : Nat → Int) (x5 : Nat → Int) (c : (Int × Bool × (Nat → Int) × (Nat → Int) × (Nat → Int) × (Nat → Int)) → Option ρ) (x : (Int × Bool × Bool × (Nat → Int) × (Nat → Int) × (Nat → Int) × (Nat → Int)) → Option ρ) : Option ρ :=
  bif decide (x0 < 276) then
    bif inR x0 276 then
      bif Nat.ble (0 + Int.toNat x0 * 1 + 1) 276 then
        Option.bind (g___fx_Acc__Clamp (x2 (Int.toNat x0)) (-1152921504606846976) 1152921504606846976 x1) fun (d : Int × Bool) =>
          bif inR x0 276 then
            bif Nat.ble (0 + Int.toNat x0 * 1 + 1) 276 && Nat.ble (0 + Int.toNat x0 * 1 + 1) 300 then
              c (IntKind.wrap IntKind.i64 (x0 + 1), d.snd, fun (j : Nat) => bif Nat.beq j (Int.toNat x0) then d.fst else x2 j, x3, x4, x5)
            else none
          else none
      else none
    else none
  else x (x0, decide (x0 < 276), x1, x2, x3, x4, x5)
section
open Go.Ab.Rdr
def Q_tri_Condition_1 := (st (cons (ar (rc (cptr (nat 0) (ok' (nat 0)) (nat 1)))) (cons aund (cons aund (cons (ar (rc (cptr (nat 1) (ok' (nat 0)) (nat 300)))) (cons (ar (rc (cptr (nat 2) (ok' (nat 0)) (nat 300)))) (cons aund (cons aund (cons aund (cons aund (cons aund (cons aund (cons aund (cons aund (cons aund (cons aund (cons aund (cons aund (cons aund (cons aund (cons aund (cons (ar (rc (cf (fi .i64 hole)))) (cons aund (cons aund (cons aund (cons aund (cons aund (cons aund (cons aund (cons aund (cons aund (cons aund (cons aund (cons aund (cons aund nil)))))))))))))))))))))))))))))))))) (cons (some' (cons (gc (cf (fb hole))) nil)) (cons (some' (cons (ga (szl (nat 276)) (cons (ki .i64 hole) nil)) (cons (ga (szl (nat 24)) (cons (ki .i64 hole) nil)) nil))) (cons (some' (cons (ga (szl (nat 276)) (cons (ki .i64 hole) nil)) (cons (ga (szl (nat 24)) (cons (ki .i64 hole) nil)) nil))) nil))) (cons (nat 0) nil))
end
theorem q_tri_Condition_1 : ∀ b, (Q_tri_Condition_1).em b = St.mk
    [AV.r (RV.c (CV.ptr 0 (Off.k 0) 1)), AV.und, AV.und, AV.r (RV.c (CV.ptr 1 (Off.k 0) 300)), AV.r (RV.c (CV.ptr 2 (Off.k 0) 300)), AV.und, AV.und, AV.und, AV.und, AV.und, AV.und, AV.und, AV.und,
      AV.und, AV.und, AV.und, AV.und, AV.und, AV.und, AV.und, AV.r (RV.c (CV.f (FV.i IntKind.i64 b.1.2.2.2.2.2.2.2.2.2.2.2.2.2.2.2.2.2.2.2.2.1))), AV.und, AV.und, AV.und, AV.und, AV.und, AV.und, AV.und, AV.und, AV.und, AV.und, AV.und, AV.und,
      AV.und]
    [some [Sg.c (CV.f (FV.b b.2.1.1.1))], some [Sg.a (Sz.l 276) [Col.i IntKind.i64 b.2.1.2.1.1.2.1], Sg.a (Sz.l 24) [Col.i IntKind.i64 b.2.1.2.1.2.1.2.1]],
      some [Sg.a (Sz.l 276) [Col.i IntKind.i64 b.2.1.2.2.1.1.2.1], Sg.a (Sz.l 24) [Col.i IntKind.i64 b.2.1.2.2.1.2.1.2.1]]]
    [0] := fun b => by kernel_rfl
def R_tri_Condition_1 (l : ∀ {ρ : Type}, (Int × Bool × (Nat → Int) × (Nat → Int) × (Nat → Int) × (Nat → Int)) → ((Int × Bool × Bool × (Nat → Int) × (Nat → Int) × (Nat → Int) × (Nat → Int)) → Option ρ) → Option ρ) {ρ : Type} (s : St) (K : AX → St → Option ρ) : Option ρ := ((Q_tri_Condition_1).rd s).bind fun b => l (b.1.2.2.2.2.2.2.2.2.2.2.2.2.2.2.2.2.2.2.2.2.1, b.2.1.1.1, b.2.1.2.1.1.2.1, b.2.1.2.1.2.1.2.1, b.2.1.2.2.1.1.2.1, b.2.1.2.2.1.2.1.2.1) (fun d => K (AX.ex 2) (St.mk
  [AV.r (RV.c (CV.ptr 0 (Off.k 0) 1)), AV.und, AV.und, AV.r (RV.c (CV.ptr 1 (Off.k 0) 300)), AV.r (RV.c (CV.ptr 2 (Off.k 0) 300)), AV.und, AV.und, AV.und, AV.und, AV.und, AV.und, AV.und, AV.und,
    AV.und, AV.und, AV.und, AV.und, AV.und, AV.und, AV.und, AV.r (RV.c (CV.f (FV.i IntKind.i64 d.fst))), AV.r (RV.c (CV.f (FV.b d.snd.fst))), AV.und, AV.und, AV.und, AV.und, AV.und, AV.und, AV.und,
    AV.und, AV.und, AV.und, AV.und, AV.und]
  [some [Sg.c (CV.f (FV.b d.snd.snd.fst))], some [Sg.a (Sz.l 276) [Col.i IntKind.i64 d.snd.snd.snd.fst], Sg.a (Sz.l 24) [Col.i IntKind.i64 d.snd.snd.snd.snd.fst]],
    some [Sg.a (Sz.l 276) [Col.i IntKind.i64 d.snd.snd.snd.snd.snd.fst], Sg.a (Sz.l 24) [Col.i IntKind.i64 d.snd.snd.snd.snd.snd.snd]]]
  [0]))
theorem ms_tri_Condition_1 {ρ σ : Type} (g_tri_variance : Int → Bool → Option (Int × Bool)) (g___fx_Acc__Clamp : Int → Int → Int → Bool → Option (Int × Bool))   (q : ρ → Option σ) (x0 : Int) (x1 : Bool) (x2 : Nat → Int) (x3 : Nat → Int) (x4 : Nat → Int) (x5 : Nat → Int) (c : (Int × Bool × (Nat → Int) × (Nat → Int) × (Nat → Int) × (Nat → Int)) → Option ρ) (x : (Int × Bool × Bool × (Nat → Int) × (Nat → Int) × (Nat → Int) × (Nat → Int)) → Option ρ) : (S_tri_Condition_1 g_tri_variance g___fx_Acc__Clamp  x0 x1 x2 x3 x4 x5 c x).bind q = S_tri_Condition_1 g_tri_variance g___fx_Acc__Clamp  x0 x1 x2 x3 x4 x5 (fun d => (c d).bind q) (fun d => (x d).bind q) := by
  simp only [S_tri_Condition_1, bnd_cond, bnd_bind, bnd_none, bnd_sum]
def L_tri_Condition_1 {ρ : Type} (d : Int × Bool × (Nat → Int) × (Nat → Int) × (Nat → Int) × (Nat → Int)) (k : (Int × Bool × Bool × (Nat → Int) × (Nat → Int) × (Nat → Int) × (Nat → Int)) → Option ρ) : Option ρ := loopK (fun d c x => S_tri_Condition_1 f_tri_variance f___fx_Acc__Clamp  d.1 d.2.1 d.2.2.1 d.2.2.2.1 d.2.2.2.2.1 d.2.2.2.2.2 c x) 1000 d k
theorem mL_tri_Condition_1 {ρ σ : Type} (q : ρ → Option σ) (d : Int × Bool × (Nat → Int) × (Nat → Int) × (Nat → Int) × (Nat → Int)) (k : (Int × Bool × Bool × (Nat → Int) × (Nat → Int) × (Nat → Int) × (Nat → Int)) → Option ρ) : (L_tri_Condition_1 d k).bind q = L_tri_Condition_1 d fun x => (k x).bind q :=
  loopK_bind q (fun d c x => ms_tri_Condition_1 f_tri_variance f___fx_Acc__Clamp   q d.1 d.2.1 d.2.2.1 d.2.2.2.1 d.2.2.2.2.1 d.2.2.2.2.2 c x) k _ d
theorem ds_tri_Condition_0 {ρ : Type} (g_tri_variance : Int → Bool → Option (Int × Bool)) (g___fx_Acc__Clamp : Int → Int → Int → Bool → Option (Int × Bool)) (l_0 : ∀ {ρ : Type}, (Int × Bool × (Nat → Int) × (Nat → Int) × (Nat → Int) × (Nat → Int)) → ((Int × Bool × Bool × (Nat → Int) × (Nat → Int) × (Nat → Int) × (Nat → Int)) → Option ρ) → Option ρ) (l_1 : ∀ {ρ : Type}, (Int × Bool × (Nat → Int) × (Nat → Int) × (Nat → Int) × (Nat → Int)) → ((Int × Bool × Bool × (Nat → Int) × (Nat → Int) × (Nat → Int) × (Nat → Int)) → Option ρ) → Option ρ) (x0 : Int) (x1 : Bool) (x2 : Nat → Int) (x3 : Nat → Int) (x4 : Nat → Int) (x5 : Nat → Int) (c : St → Option ρ) (K : AX → St → Option ρ) :
    runC Try.prog (envOf [(57, F_tri_variance g_tri_variance), (64, F___fx_Acc__Clamp g___fx_Acc__Clamp)]) ⟨[⟨2, [1, 2, 5, 6, 8, 9, 10, 11, 12, 13, 14, 15, 16, 17, 18, 19, 20, 21, 22, 23, 24, 25, 26, 27, 28, 29, 30, 31, 32, 33], []⟩, ⟨7, [1, 2, 5, 6, 7, 8, 9, 10, 11, 12, 13, 14, 15, 16, 17, 18, 19, 21, 22, 23, 24, 25, 26, 27, 28, 29, 30, 31, 32, 33], []⟩], [⟨2, 1, @R_tri_Condition_0 (@l_0)⟩, ⟨7, 1, @R_tri_Condition_1 (@l_1)⟩], [0], [], none⟩ (tmpsOf Try.prog 48) 1 1000 (loopIn Try.prog 48 2)
      (St.mk
    [AV.r (RV.c (CV.ptr 0 (Off.k 0) 1)), AV.und, AV.und, AV.r (RV.c (CV.ptr 1 (Off.k 0) 300)), AV.r (RV.c (CV.ptr 2 (Off.k 0) 300)), AV.und, AV.und, AV.r (RV.c (CV.f (FV.i IntKind.i64 x0))), AV.und,
      AV.und, AV.und, AV.und, AV.und, AV.und, AV.und, AV.und, AV.und, AV.und, AV.und, AV.und, AV.und, AV.und, AV.und, AV.und, AV.und, AV.und, AV.und, AV.und, AV.und, AV.und, AV.und, AV.und, AV.und,
      AV.und]
    [some [Sg.c (CV.f (FV.b x1))], some [Sg.a (Sz.l 276) [Col.i IntKind.i64 x2], Sg.a (Sz.l 24) [Col.i IntKind.i64 x3]],
      some [Sg.a (Sz.l 276) [Col.i IntKind.i64 x4], Sg.a (Sz.l 24) [Col.i IntKind.i64 x5]]]
    [0])
      (next (fun t => t.head 1 ⟨[⟨2, [1, 2, 5, 6, 8, 9, 10, 11, 12, 13, 14, 15, 16, 17, 18, 19, 20, 21, 22, 23, 24, 25, 26, 27, 28, 29, 30, 31, 32, 33], []⟩, ⟨7, [1, 2, 5, 6, 7, 8, 9, 10, 11, 12, 13, 14, 15, 16, 17, 18, 19, 21, 22, 23, 24, 25, 26, 27, 28, 29, 30, 31, 32, 33], []⟩], [⟨2, 1, @R_tri_Condition_0 (@l_0)⟩, ⟨7, 1, @R_tri_Condition_1 (@l_1)⟩], [0], [], none⟩ (loopIn Try.prog 48 2)) c K) =
    S_tri_Condition_0 g_tri_variance g___fx_Acc__Clamp  x0 x1 x2 x3 x4 x5 (fun d => c (St.mk
  [AV.r (RV.c (CV.ptr 0 (Off.k 0) 1)), AV.und, AV.und, AV.r (RV.c (CV.ptr 1 (Off.k 0) 300)), AV.r (RV.c (CV.ptr 2 (Off.k 0) 300)), AV.und, AV.und, AV.r (RV.c (CV.f (FV.i IntKind.i64 d.fst))), AV.und,
    AV.und, AV.und, AV.und, AV.und, AV.und, AV.und, AV.und, AV.und, AV.und, AV.und, AV.und, AV.und, AV.und, AV.und, AV.und, AV.und, AV.und, AV.und, AV.und, AV.und, AV.und, AV.und, AV.und, AV.und,
    AV.und]
  [some [Sg.c (CV.f (FV.b d.snd.fst))], some [Sg.a (Sz.l 276) [Col.i IntKind.i64 d.snd.snd.fst], Sg.a (Sz.l 24) [Col.i IntKind.i64 d.snd.snd.snd.fst]],
    some [Sg.a (Sz.l 276) [Col.i IntKind.i64 d.snd.snd.snd.snd.fst], Sg.a (Sz.l 24) [Col.i IntKind.i64 d.snd.snd.snd.snd.snd]]]
  [0])) (fun d => K (AX.ex 0) (St.mk
  [AV.r (RV.c (CV.ptr 0 (Off.k 0) 1)), AV.und, AV.und, AV.r (RV.c (CV.ptr 1 (Off.k 0) 300)), AV.r (RV.c (CV.ptr 2 (Off.k 0) 300)), AV.und, AV.und, AV.r (RV.c (CV.f (FV.i IntKind.i64 d.fst))),
    AV.r (RV.c (CV.f (FV.b d.snd.fst))), AV.und, AV.und, AV.und, AV.und, AV.und, AV.und, AV.und, AV.und, AV.und, AV.und, AV.und, AV.und, AV.und, AV.und, AV.und, AV.und, AV.und, AV.und, AV.und, AV.und,
    AV.und, AV.und, AV.und, AV.und, AV.und]
  [some [Sg.c (CV.f (FV.b d.snd.snd.fst))], some [Sg.a (Sz.l 276) [Col.i IntKind.i64 d.snd.snd.snd.fst], Sg.a (Sz.l 24) [Col.i IntKind.i64 d.snd.snd.snd.snd.fst]],
    some [Sg.a (Sz.l 276) [Col.i IntKind.i64 d.snd.snd.snd.snd.snd.fst], Sg.a (Sz.l 24) [Col.i IntKind.i64 d.snd.snd.snd.snd.snd.snd]]]
  [0])) := by kernel_rfl
theorem it_tri_Condition_0 {ρ : Type} (x0 : Int) (x1 : Bool) (x2 : Nat → Int) (x3 : Nat → Int) (x4 : Nat → Int) (x5 : Nat → Int) (K : AX → St → Option ρ) :
    iter (fun t => t.head 1 ⟨[⟨2, [1, 2, 5, 6, 8, 9, 10, 11, 12, 13, 14, 15, 16, 17, 18, 19, 20, 21, 22, 23, 24, 25, 26, 27, 28, 29, 30, 31, 32, 33], []⟩, ⟨7, [1, 2, 5, 6, 7, 8, 9, 10, 11, 12, 13, 14, 15, 16, 17, 18, 19, 21, 22, 23, 24, 25, 26, 27, 28, 29, 30, 31, 32, 33], []⟩], [⟨2, 1, @R_tri_Condition_0 (@L_tri_Condition_0)⟩, ⟨7, 1, @R_tri_Condition_1 (@L_tri_Condition_1)⟩], [0], [], none⟩ (loopIn Try.prog 48 2)) (runC Try.prog (envOf [(57, F_tri_variance f_tri_variance), (64, F___fx_Acc__Clamp f___fx_Acc__Clamp)]) ⟨[⟨2, [1, 2, 5, 6, 8, 9, 10, 11, 12, 13, 14, 15, 16, 17, 18, 19, 20, 21, 22, 23, 24, 25, 26, 27, 28, 29, 30, 31, 32, 33], []⟩, ⟨7, [1, 2, 5, 6, 7, 8, 9, 10, 11, 12, 13, 14, 15, 16, 17, 18, 19, 21, 22, 23, 24, 25, 26, 27, 28, 29, 30, 31, 32, 33], []⟩], [⟨2, 1, @R_tri_Condition_0 (@L_tri_Condition_0)⟩, ⟨7, 1, @R_tri_Condition_1 (@L_tri_Condition_1)⟩], [0], [], none⟩ (tmpsOf Try.prog 48) 1 1000 (loopIn Try.prog 48 2)) K 1000
      (St.mk
    [AV.r (RV.c (CV.ptr 0 (Off.k 0) 1)), AV.und, AV.und, AV.r (RV.c (CV.ptr 1 (Off.k 0) 300)), AV.r (RV.c (CV.ptr 2 (Off.k 0) 300)), AV.und, AV.und, AV.r (RV.c (CV.f (FV.i IntKind.i64 x0))), AV.und,
      AV.und, AV.und, AV.und, AV.und, AV.und, AV.und, AV.und, AV.und, AV.und, AV.und, AV.und, AV.und, AV.und, AV.und, AV.und, AV.und, AV.und, AV.und, AV.und, AV.und, AV.und, AV.und, AV.und, AV.und,
      AV.und]
    [some [Sg.c (CV.f (FV.b x1))], some [Sg.a (Sz.l 276) [Col.i IntKind.i64 x2], Sg.a (Sz.l 24) [Col.i IntKind.i64 x3]],
      some [Sg.a (Sz.l 276) [Col.i IntKind.i64 x4], Sg.a (Sz.l 24) [Col.i IntKind.i64 x5]]]
    [0]) = L_tri_Condition_0 (x0, x1, x2, x3, x4, x5) (fun d => K (AX.ex 0) (St.mk
  [AV.r (RV.c (CV.ptr 0 (Off.k 0) 1)), AV.und, AV.und, AV.r (RV.c (CV.ptr 1 (Off.k 0) 300)), AV.r (RV.c (CV.ptr 2 (Off.k 0) 300)), AV.und, AV.und, AV.r (RV.c (CV.f (FV.i IntKind.i64 d.fst))),
    AV.r (RV.c (CV.f (FV.b d.snd.fst))), AV.und, AV.und, AV.und, AV.und, AV.und, AV.und, AV.und, AV.und, AV.und, AV.und, AV.und, AV.und, AV.und, AV.und, AV.und, AV.und, AV.und, AV.und, AV.und, AV.und,
    AV.und, AV.und, AV.und, AV.und, AV.und]
  [some [Sg.c (CV.f (FV.b d.snd.snd.fst))], some [Sg.a (Sz.l 276) [Col.i IntKind.i64 d.snd.snd.snd.fst], Sg.a (Sz.l 24) [Col.i IntKind.i64 d.snd.snd.snd.snd.fst]],
    some [Sg.a (Sz.l 276) [Col.i IntKind.i64 d.snd.snd.snd.snd.snd.fst], Sg.a (Sz.l 24) [Col.i IntKind.i64 d.snd.snd.snd.snd.snd.snd]]]
  [0])) :=
  iter_loopX (emb := fun (d : Int × Bool × (Nat → Int) × (Nat → Int) × (Nat → Int) × (Nat → Int)) => St.mk
  [AV.r (RV.c (CV.ptr 0 (Off.k 0) 1)), AV.und, AV.und, AV.r (RV.c (CV.ptr 1 (Off.k 0) 300)), AV.r (RV.c (CV.ptr 2 (Off.k 0) 300)), AV.und, AV.und, AV.r (RV.c (CV.f (FV.i IntKind.i64 d.fst))), AV.und,
    AV.und, AV.und, AV.und, AV.und, AV.und, AV.und, AV.und, AV.und, AV.und, AV.und, AV.und, AV.und, AV.und, AV.und, AV.und, AV.und, AV.und, AV.und, AV.und, AV.und, AV.und, AV.und, AV.und, AV.und,
    AV.und]
  [some [Sg.c (CV.f (FV.b d.snd.fst))], some [Sg.a (Sz.l 276) [Col.i IntKind.i64 d.snd.snd.fst], Sg.a (Sz.l 24) [Col.i IntKind.i64 d.snd.snd.snd.fst]],
    some [Sg.a (Sz.l 276) [Col.i IntKind.i64 d.snd.snd.snd.snd.fst], Sg.a (Sz.l 24) [Col.i IntKind.i64 d.snd.snd.snd.snd.snd]]]
  [0]) (step := fun d c x => S_tri_Condition_0 f_tri_variance f___fx_Acc__Clamp  d.1 d.2.1 d.2.2.1 d.2.2.2.1 d.2.2.2.2.1 d.2.2.2.2.2 c x) (kx := (fun d => K (AX.ex 0) (St.mk
  [AV.r (RV.c (CV.ptr 0 (Off.k 0) 1)), AV.und, AV.und, AV.r (RV.c (CV.ptr 1 (Off.k 0) 300)), AV.r (RV.c (CV.ptr 2 (Off.k 0) 300)), AV.und, AV.und, AV.r (RV.c (CV.f (FV.i IntKind.i64 d.fst))),
    AV.r (RV.c (CV.f (FV.b d.snd.fst))), AV.und, AV.und, AV.und, AV.und, AV.und, AV.und, AV.und, AV.und, AV.und, AV.und, AV.und, AV.und, AV.und, AV.und, AV.und, AV.und, AV.und, AV.und, AV.und, AV.und,
    AV.und, AV.und, AV.und, AV.und, AV.und]
  [some [Sg.c (CV.f (FV.b d.snd.snd.fst))], some [Sg.a (Sz.l 276) [Col.i IntKind.i64 d.snd.snd.snd.fst], Sg.a (Sz.l 24) [Col.i IntKind.i64 d.snd.snd.snd.snd.fst]],
    some [Sg.a (Sz.l 276) [Col.i IntKind.i64 d.snd.snd.snd.snd.snd.fst], Sg.a (Sz.l 24) [Col.i IntKind.i64 d.snd.snd.snd.snd.snd.snd]]]
  [0])))
    (fun d c => ds_tri_Condition_0 f_tri_variance f___fx_Acc__Clamp (@L_tri_Condition_0) (@L_tri_Condition_1) d.1 d.2.1 d.2.2.1 d.2.2.2.1 d.2.2.2.2.1 d.2.2.2.2.2 c K) 1000 (x0, x1, x2, x3, x4, x5)
theorem so_tri_Condition_0 : ∀ kk, SumOK Try.prog (envOf [(57, F_tri_variance f_tri_variance), (64, F___fx_Acc__Clamp f___fx_Acc__Clamp)]) ⟨[⟨2, [1, 2, 5, 6, 8, 9, 10, 11, 12, 13, 14, 15, 16, 17, 18, 19, 20, 21, 22, 23, 24, 25, 26, 27, 28, 29, 30, 31, 32, 33], []⟩, ⟨7, [1, 2, 5, 6, 7, 8, 9, 10, 11, 12, 13, 14, 15, 16, 17, 18, 19, 21, 22, 23, 24, 25, 26, 27, 28, 29, 30, 31, 32, 33], []⟩], [⟨2, 1, @R_tri_Condition_0 (@L_tri_Condition_0)⟩, ⟨7, 1, @R_tri_Condition_1 (@L_tri_Condition_1)⟩], [0], [], none⟩ (tmpsOf Try.prog 48) kk 1000 (loopIn Try.prog 48 2) :=
  SumOK.of (id := 2) (k0 := 1) (run := @R_tri_Condition_0 (@L_tri_Condition_0)) (by kernel_rfl) fun s K r hr => by
    unfold R_tri_Condition_0 at hr
    obtain ⟨b, hb, hr1⟩ := Option.bind_eq_some_iff.1 hr
    have e := ((Q_tri_Condition_0).ok s b hb).trans (q_tri_Condition_0 b)
    subst e
    exact ⟨1000, (it_tri_Condition_0 b.1.2.2.2.2.2.2.2.1 b.2.1.1.1 b.2.1.2.1.1.2.1 b.2.1.2.1.2.1.2.1 b.2.1.2.2.1.1.2.1 b.2.1.2.2.1.2.1.2.1 K).trans hr1⟩
theorem ds_tri_Condition_1 {ρ : Type} (g_tri_variance : Int → Bool → Option (Int × Bool)) (g___fx_Acc__Clamp : Int → Int → Int → Bool → Option (Int × Bool)) (l_0 : ∀ {ρ : Type}, (Int × Bool × (Nat → Int) × (Nat → Int) × (Nat → Int) × (Nat → Int)) → ((Int × Bool × Bool × (Nat → Int) × (Nat → Int) × (Nat → Int) × (Nat → Int)) → Option ρ) → Option ρ) (l_1 : ∀ {ρ : Type}, (Int × Bool × (Nat → Int) × (Nat → Int) × (Nat → Int) × (Nat → Int)) → ((Int × Bool × Bool × (Nat → Int) × (Nat → Int) × (Nat → Int) × (Nat → Int)) → Option ρ) → Option ρ) (x0 : Int) (x1 : Bool) (x2 : Nat → Int) (x3 : Nat → Int) (x4 : Nat → Int) (x5 : Nat → Int) (c : St → Option ρ) (K : AX → St → Option ρ) :
    runC Try.prog (envOf [(57, F_tri_variance g_tri_variance), (64, F___fx_Acc__Clamp g___fx_Acc__Clamp)]) ⟨[⟨2, [1, 2, 5, 6, 8, 9, 10, 11, 12, 13, 14, 15, 16, 17, 18, 19, 20, 21, 22, 23, 24, 25, 26, 27, 28, 29, 30, 31, 32, 33], []⟩, ⟨7, [1, 2, 5, 6, 7, 8, 9, 10, 11, 12, 13, 14, 15, 16, 17, 18, 19, 21, 22, 23, 24, 25, 26, 27, 28, 29, 30, 31, 32, 33], []⟩], [⟨2, 1, @R_tri_Condition_0 (@l_0)⟩, ⟨7, 1, @R_tri_Condition_1 (@l_1)⟩], [0], [], none⟩ (tmpsOf Try.prog 48) 1 1000 (loopIn Try.prog 48 7)
      (St.mk
    [AV.r (RV.c (CV.ptr 0 (Off.k 0) 1)), AV.und, AV.und, AV.r (RV.c (CV.ptr 1 (Off.k 0) 300)), AV.r (RV.c (CV.ptr 2 (Off.k 0) 300)), AV.und, AV.und, AV.und, AV.und, AV.und, AV.und, AV.und, AV.und,
      AV.und, AV.und, AV.und, AV.und, AV.und, AV.und, AV.und, AV.r (RV.c (CV.f (FV.i IntKind.i64 x0))), AV.und, AV.und, AV.und, AV.und, AV.und, AV.und, AV.und, AV.und, AV.und, AV.und, AV.und, AV.und,
      AV.und]
    [some [Sg.c (CV.f (FV.b x1))], some [Sg.a (Sz.l 276) [Col.i IntKind.i64 x2], Sg.a (Sz.l 24) [Col.i IntKind.i64 x3]],
      some [Sg.a (Sz.l 276) [Col.i IntKind.i64 x4], Sg.a (Sz.l 24) [Col.i IntKind.i64 x5]]]
    [0])
      (next (fun t => t.head 1 ⟨[⟨2, [1, 2, 5, 6, 8, 9, 10, 11, 12, 13, 14, 15, 16, 17, 18, 19, 20, 21, 22, 23, 24, 25, 26, 27, 28, 29, 30, 31, 32, 33], []⟩, ⟨7, [1, 2, 5, 6, 7, 8, 9, 10, 11, 12, 13, 14, 15, 16, 17, 18, 19, 21, 22, 23, 24, 25, 26, 27, 28, 29, 30, 31, 32, 33], []⟩], [⟨2, 1, @R_tri_Condition_0 (@l_0)⟩, ⟨7, 1, @R_tri_Condition_1 (@l_1)⟩], [0], [], none⟩ (loopIn Try.prog 48 7)) c K) =
    S_tri_Condition_1 g_tri_variance g___fx_Acc__Clamp  x0 x1 x2 x3 x4 x5 (fun d => c (St.mk
  [AV.r (RV.c (CV.ptr 0 (Off.k 0) 1)), AV.und, AV.und, AV.r (RV.c (CV.ptr 1 (Off.k 0) 300)), AV.r (RV.c (CV.ptr 2 (Off.k 0) 300)), AV.und, AV.und, AV.und, AV.und, AV.und, AV.und, AV.und, AV.und,
    AV.und, AV.und, AV.und, AV.und, AV.und, AV.und, AV.und, AV.r (RV.c (CV.f (FV.i IntKind.i64 d.fst))), AV.und, AV.und, AV.und, AV.und, AV.und, AV.und, AV.und, AV.und, AV.und, AV.und, AV.und, AV.und,
    AV.und]
  [some [Sg.c (CV.f (FV.b d.snd.fst))], some [Sg.a (Sz.l 276) [Col.i IntKind.i64 d.snd.snd.fst], Sg.a (Sz.l 24) [Col.i IntKind.i64 d.snd.snd.snd.fst]],
    some [Sg.a (Sz.l 276) [Col.i IntKind.i64 d.snd.snd.snd.snd.fst], Sg.a (Sz.l 24) [Col.i IntKind.i64 d.snd.snd.snd.snd.snd]]]
  [0])) (fun d => K (AX.ex 2) (St.mk
  [AV.r (RV.c (CV.ptr 0 (Off.k 0) 1)), AV.und, AV.und, AV.r (RV.c (CV.ptr 1 (Off.k 0) 300)), AV.r (RV.c (CV.ptr 2 (Off.k 0) 300)), AV.und, AV.und, AV.und, AV.und, AV.und, AV.und, AV.und, AV.und,
    AV.und, AV.und, AV.und, AV.und, AV.und, AV.und, AV.und, AV.r (RV.c (CV.f (FV.i IntKind.i64 d.fst))), AV.r (RV.c (CV.f (FV.b d.snd.fst))), AV.und, AV.und, AV.und, AV.und, AV.und, AV.und, AV.und,
    AV.und, AV.und, AV.und, AV.und, AV.und]
  [some [Sg.c (CV.f (FV.b d.snd.snd.fst))], some [Sg.a (Sz.l 276) [Col.i IntKind.i64 d.snd.snd.snd.fst], Sg.a (Sz.l 24) [Col.i IntKind.i64 d.snd.snd.snd.snd.fst]],
    some [Sg.a (Sz.l 276) [Col.i IntKind.i64 d.snd.snd.snd.snd.snd.fst], Sg.a (Sz.l 24) [Col.i IntKind.i64 d.snd.snd.snd.snd.snd.snd]]]
  [0])) := by kernel_rfl
theorem it_tri_Condition_1 {ρ : Type} (x0 : Int) (x1 : Bool) (x2 : Nat → Int) (x3 : Nat → Int) (x4 : Nat → Int) (x5 : Nat → Int) (K : AX → St → Option ρ) :
    iter (fun t => t.head 1 ⟨[⟨2, [1, 2, 5, 6, 8, 9, 10, 11, 12, 13, 14, 15, 16, 17, 18, 19, 20, 21, 22, 23, 24, 25, 26, 27, 28, 29, 30, 31, 32, 33], []⟩, ⟨7, [1, 2, 5, 6, 7, 8, 9, 10, 11, 12, 13, 14, 15, 16, 17, 18, 19, 21, 22, 23, 24, 25, 26, 27, 28, 29, 30, 31, 32, 33], []⟩], [⟨2, 1, @R_tri_Condition_0 (@L_tri_Condition_0)⟩, ⟨7, 1, @R_tri_Condition_1 (@L_tri_Condition_1)⟩], [0], [], none⟩ (loopIn Try.prog 48 7)) (runC Try.prog (envOf [(57, F_tri_variance f_tri_variance), (64, F___fx_Acc__Clamp f___fx_Acc__Clamp)]) ⟨[⟨2, [1, 2, 5, 6, 8, 9, 10, 11, 12, 13, 14, 15, 16, 17, 18, 19, 20, 21, 22, 23, 24, 25, 26, 27, 28, 29, 30, 31, 32, 33], []⟩, ⟨7, [1, 2, 5, 6, 7, 8, 9, 10, 11, 12, 13, 14, 15, 16, 17, 18, 19, 21, 22, 23, 24, 25, 26, 27, 28, 29, 30, 31, 32, 33], []⟩], [⟨2, 1, @R_tri_Condition_0 (@L_tri_Condition_0)⟩, ⟨7, 1, @R_tri_Condition_1 (@L_tri_Condition_1)⟩], [0], [], none⟩ (tmpsOf Try.prog 48) 1 1000 (loopIn Try.prog 48 7)) K 1000
      (St.mk
    [AV.r (RV.c (CV.ptr 0 (Off.k 0) 1)), AV.und, AV.und, AV.r (RV.c (CV.ptr 1 (Off.k 0) 300)), AV.r (RV.c (CV.ptr 2 (Off.k 0) 300)), AV.und, AV.und, AV.und, AV.und, AV.und, AV.und, AV.und, AV.und,
      AV.und, AV.und, AV.und, AV.und, AV.und, AV.und, AV.und, AV.r (RV.c (CV.f (FV.i IntKind.i64 x0))), AV.und, AV.und, AV.und, AV.und, AV.und, AV.und, AV.und, AV.und, AV.und, AV.und, AV.und, AV.und,
      AV.und]
    [some [Sg.c (CV.f (FV.b x1))], some [Sg.a (Sz.l 276) [Col.i IntKind.i64 x2], Sg.a (Sz.l 24) [Col.i IntKind.i64 x3]],
      some [Sg.a (Sz.l 276) [Col.i IntKind.i64 x4], Sg.a (Sz.l 24) [Col.i IntKind.i64 x5]]]
    [0]) = L_tri_Condition_1 (x0, x1, x2, x3, x4, x5) (fun d => K (AX.ex 2) (St.mk
  [AV.r (RV.c (CV.ptr 0 (Off.k 0) 1)), AV.und, AV.und, AV.r (RV.c (CV.ptr 1 (Off.k 0) 300)), AV.r (RV.c (CV.ptr 2 (Off.k 0) 300)), AV.und, AV.und, AV.und, AV.und, AV.und, AV.und, AV.und, AV.und,
    AV.und, AV.und, AV.und, AV.und, AV.und, AV.und, AV.und, AV.r (RV.c (CV.f (FV.i IntKind.i64 d.fst))), AV.r (RV.c (CV.f (FV.b d.snd.fst))), AV.und, AV.und, AV.und, AV.und, AV.und, AV.und, AV.und,
    AV.und, AV.und, AV.und, AV.und, AV.und]
  [some [Sg.c (CV.f (FV.b d.snd.snd.fst))], some [Sg.a (Sz.l 276) [Col.i IntKind.i64 d.snd.snd.snd.fst], Sg.a (Sz.l 24) [Col.i IntKind.i64 d.snd.snd.snd.snd.fst]],
    some [Sg.a (Sz.l 276) [Col.i IntKind.i64 d.snd.snd.snd.snd.snd.fst], Sg.a (Sz.l 24) [Col.i IntKind.i64 d.snd.snd.snd.snd.snd.snd]]]
  [0])) :=
  iter_loopX (emb := fun (d : Int × Bool × (Nat → Int) × (Nat → Int) × (Nat → Int) × (Nat → Int)) => St.mk
  [AV.r (RV.c (CV.ptr 0 (Off.k 0) 1)), AV.und, AV.und, AV.r (RV.c (CV.ptr 1 (Off.k 0) 300)), AV.r (RV.c (CV.ptr 2 (Off.k 0) 300)), AV.und, AV.und, AV.und, AV.und, AV.und, AV.und, AV.und, AV.und,
    AV.und, AV.und, AV.und, AV.und, AV.und, AV.und, AV.und, AV.r (RV.c (CV.f (FV.i IntKind.i64 d.fst))), AV.und, AV.und, AV.und, AV.und, AV.und, AV.und, AV.und, AV.und, AV.und, AV.und, AV.und, AV.und,
    AV.und]
  [some [Sg.c (CV.f (FV.b d.snd.fst))], some [Sg.a (Sz.l 276) [Col.i IntKind.i64 d.snd.snd.fst], Sg.a (Sz.l 24) [Col.i IntKind.i64 d.snd.snd.snd.fst]],
    some [Sg.a (Sz.l 276) [Col.i IntKind.i64 d.snd.snd.snd.snd.fst], Sg.a (Sz.l 24) [Col.i IntKind.i64 d.snd.snd.snd.snd.snd]]]
  [0]) (step := fun d c x => S_tri_Condition_1 f_tri_variance f___fx_Acc__Clamp  d.1 d.2.1 d.2.2.1 d.2.2.2.1 d.2.2.2.2.1 d.2.2.2.2.2 c x) (kx := (fun d => K (AX.ex 2) (St.mk
  [AV.r (RV.c (CV.ptr 0 (Off.k 0) 1)), AV.und, AV.und, AV.r (RV.c (CV.ptr 1 (Off.k 0) 300)), AV.r (RV.c (CV.ptr 2 (Off.k 0) 300)), AV.und, AV.und, AV.und, AV.und, AV.und, AV.und, AV.und, AV.und,
    AV.und, AV.und, AV.und, AV.und, AV.und, AV.und, AV.und, AV.r (RV.c (CV.f (FV.i IntKind.i64 d.fst))), AV.r (RV.c (CV.f (FV.b d.snd.fst))), AV.und, AV.und, AV.und, AV.und, AV.und, AV.und, AV.und,
    AV.und, AV.und, AV.und, AV.und, AV.und]
  [some [Sg.c (CV.f (FV.b d.snd.snd.fst))], some [Sg.a (Sz.l 276) [Col.i IntKind.i64 d.snd.snd.snd.fst], Sg.a (Sz.l 24) [Col.i IntKind.i64 d.snd.snd.snd.snd.fst]],
    some [Sg.a (Sz.l 276) [Col.i IntKind.i64 d.snd.snd.snd.snd.snd.fst], Sg.a (Sz.l 24) [Col.i IntKind.i64 d.snd.snd.snd.snd.snd.snd]]]
  [0])))
    (fun d c => ds_tri_Condition_1 f_tri_variance f___fx_Acc__Clamp (@L_tri_Condition_0) (@L_tri_Condition_1) d.1 d.2.1 d.2.2.1 d.2.2.2.1 d.2.2.2.2.1 d.2.2.2.2.2 c K) 1000 (x0, x1, x2, x3, x4, x5)
theorem so_tri_Condition_1 : ∀ kk, SumOK Try.prog (envOf [(57, F_tri_variance f_tri_variance), (64, F___fx_Acc__Clamp f___fx_Acc__Clamp)]) ⟨[⟨2, [1, 2, 5, 6, 8, 9, 10, 11, 12, 13, 14, 15, 16, 17, 18, 19, 20, 21, 22, 23, 24, 25, 26, 27, 28, 29, 30, 31, 32, 33], []⟩, ⟨7, [1, 2, 5, 6, 7, 8, 9, 10, 11, 12, 13, 14, 15, 16, 17, 18, 19, 21, 22, 23, 24, 25, 26, 27, 28, 29, 30, 31, 32, 33], []⟩], [⟨2, 1, @R_tri_Condition_0 (@L_tri_Condition_0)⟩, ⟨7, 1, @R_tri_Condition_1 (@L_tri_Condition_1)⟩], [0], [], none⟩ (tmpsOf Try.prog 48) kk 1000 (loopIn Try.prog 48 7) :=
  SumOK.of (id := 7) (k0 := 1) (run := @R_tri_Condition_1 (@L_tri_Condition_1)) (by kernel_rfl) fun s K r hr => by
    unfold R_tri_Condition_1 at hr
    obtain ⟨b, hb, hr1⟩ := Option.bind_eq_some_iff.1 hr
    have e := ((Q_tri_Condition_1).ok s b hb).trans (q_tri_Condition_1 b)
    subst e
    exact ⟨1000, (it_tri_Condition_1 b.1.2.2.2.2.2.2.2.2.2.2.2.2.2.2.2.2.2.2.2.2.1 b.2.1.1.1 b.2.1.2.1.1.2.1 b.2.1.2.1.2.1.2.1 b.2.1.2.2.1.1.2.1 b.2.1.2.2.1.2.1.2.1 K).trans hr1⟩
def K_tri_Condition {ρ : Type} (g_tri_variance : Int → Bool → Option (Int × Bool)) (g___fx_Acc__Clamp : Int → Int → Int → Bool → Option (Int × Bool)) (l_0 : ∀ {ρ : Type}, (Int × Bool × (Nat → Int) × (Nat → Int) × (Nat → Int) × (Nat → Int)) → ((Int × Bool × Bool × (Nat → Int) × (Nat → Int) × (Nat → Int) × (Nat → Int)) → Option ρ) → Option ρ) (l_1 : ∀ {ρ : Type}, (Int × Bool × (Nat → Int) × (Nat → Int) × (Nat → Int) × (Nat → Int)) → ((Int × Bool × Bool × (Nat → Int) × (Nat → Int) × (Nat → Int) × (Nat → Int)) → Option ρ) → Option ρ) (x0 : Nat → Int) (x1 : Nat → Int) (x2 : Bool) (k : ((Nat → Int) × (Nat → Int) × Bool) → Option ρ) : Option ρ :=
  l_0 (0, x2, x0, x1, fun (x : Nat) => 0, fun (x : Nat) => 0) fun (d : Int × Bool × Bool × (Nat → Int) × (Nat → Int) × (Nat → Int) × (Nat → Int)) =>
    l_1 (0, d.snd.snd.fst, d.snd.snd.snd.1, d.snd.snd.snd.snd.1, d.snd.snd.snd.snd.snd.1, d.snd.snd.snd.snd.snd.2) fun (d : Int × Bool × Bool × (Nat → Int) × (Nat → Int) × (Nat → Int) × (Nat → Int)) =>
      k (d.snd.snd.snd.1, d.snd.snd.snd.snd.1, d.snd.snd.fst)
def f_tri_Condition (x0 : Nat → Int) (x1 : Nat → Int) (x2 : Bool) : Option ((Nat → Int) × (Nat → Int) × Bool) := K_tri_Condition f_tri_variance f___fx_Acc__Clamp (@L_tri_Condition_0) (@L_tri_Condition_1) x0 x1 x2 some
section
open Go.Ab.Rdr
def QA_tri_Condition := ((pair (cons (ar (rc (cptr (nat 0) (ok' (nat 0)) (nat 1)))) (cons (ar (ra (cons (ga (szl (nat 276)) (cons (ki .i64 hole) nil)) (cons (ga (szl (nat 24)) (cons (ki .i64 hole) nil)) nil)))) nil)) (cons (cons (gc (cf (fb hole))) nil) nil)) : Rdr (List AV × List Blk) _)
end
def F_tri_Condition (f : (Nat → Int) → (Nat → Int) → (Bool) → Option ((Nat → Int) × (Nat → Int) × Bool)) : Sem1 := fun args h => match (QA_tri_Condition).rd (args, h) with
  | some b => .opt (f b.1.2.1.1.2.1 b.1.2.1.2.1.2.1 b.2.1.1) fun (d : (Nat → Int) × (Nat → Int) × Bool) => .leaf (Res.mk (AV.r (RV.agg [Sg.a (Sz.l 276) [Col.i IntKind.i64 d.fst], Sg.a (Sz.l 24) [Col.i IntKind.i64 d.snd.fst]])) [Ch.set [Sg.c (CV.f (FV.b d.snd.snd))]] [])
  | none => .fail
theorem d_tri_Condition (g_tri_variance : Int → Bool → Option (Int × Bool)) (g___fx_Acc__Clamp : Int → Int → Int → Bool → Option (Int × Bool)) (l_0 : ∀ {ρ : Type}, (Int × Bool × (Nat → Int) × (Nat → Int) × (Nat → Int) × (Nat → Int)) → ((Int × Bool × Bool × (Nat → Int) × (Nat → Int) × (Nat → Int) × (Nat → Int)) → Option ρ) → Option ρ) (l_1 : ∀ {ρ : Type}, (Int × Bool × (Nat → Int) × (Nat → Int) × (Nat → Int) × (Nat → Int)) → ((Int × Bool × Bool × (Nat → Int) × (Nat → Int) × (Nat → Int) × (Nat → Int)) → Option ρ) → Option ρ) (x0 : Nat → Int) (x1 : Nat → Int) (x2 : Bool) : den Try.prog (envOf [(57, F_tri_variance g_tri_variance), (64, F___fx_Acc__Clamp g___fx_Acc__Clamp)]) ⟨[⟨2, [1, 2, 5, 6, 8, 9, 10, 11, 12, 13, 14, 15, 16, 17, 18, 19, 20, 21, 22, 23, 24, 25, 26, 27, 28, 29, 30, 31, 32, 33], []⟩, ⟨7, [1, 2, 5, 6, 7, 8, 9, 10, 11, 12, 13, 14, 15, 16, 17, 18, 19, 21, 22, 23, 24, 25, 26, 27, 28, 29, 30, 31, 32, 33], []⟩], [⟨2, 1, @R_tri_Condition_0 (@l_0)⟩, ⟨7, 1, @R_tri_Condition_1 (@l_1)⟩], [0], [], none⟩ 1000 48 [.r (.c (.ptr 0 (.k 0) 1)), .r (.agg [.a (.l 276) [.i .i64 x0], .a (.l 24) [.i .i64 x1]])] [[.c (.f (.b x2))]] =
    K_tri_Condition g_tri_variance g___fx_Acc__Clamp (@l_0) (@l_1) x0 x1 x2 (fun (d : (Nat → Int) × (Nat → Int) × Bool) => some (Res.mk (AV.r (RV.agg [Sg.a (Sz.l 276) [Col.i IntKind.i64 d.fst], Sg.a (Sz.l 24) [Col.i IntKind.i64 d.snd.fst]])) [Ch.set [Sg.c (CV.f (FV.b d.snd.snd))]] [])) := by kernel_rfl
theorem m_tri_Condition {ρ σ : Type} (q : ρ → Option σ) (g_tri_variance : Int → Bool → Option (Int × Bool)) (g___fx_Acc__Clamp : Int → Int → Int → Bool → Option (Int × Bool)) (l_0 : ∀ {ρ : Type}, (Int × Bool × (Nat → Int) × (Nat → Int) × (Nat → Int) × (Nat → Int)) → ((Int × Bool × Bool × (Nat → Int) × (Nat → Int) × (Nat → Int) × (Nat → Int)) → Option ρ) → Option ρ) (l_1 : ∀ {ρ : Type}, (Int × Bool × (Nat → Int) × (Nat → Int) × (Nat → Int) × (Nat → Int)) → ((Int × Bool × Bool × (Nat → Int) × (Nat → Int) × (Nat → Int) × (Nat → Int)) → Option ρ) → Option ρ) (hl_0 : ∀ {ρ σ : Type} (q : ρ → Option σ) (d : Int × Bool × (Nat → Int) × (Nat → Int) × (Nat → Int) × (Nat → Int)) (k : (Int × Bool × Bool × (Nat → Int) × (Nat → Int) × (Nat → Int) × (Nat → Int)) → Option ρ), (l_0 d k).bind q = l_0 d fun x => (k x).bind q) (hl_1 : ∀ {ρ σ : Type} (q : ρ → Option σ) (d : Int × Bool × (Nat → Int) × (Nat → Int) × (Nat → Int) × (Nat → Int)) (k : (Int × Bool × Bool × (Nat → Int) × (Nat → Int) × (Nat → Int) × (Nat → Int)) → Option ρ), (l_1 d k).bind q = l_1 d fun x => (k x).bind q) (x0 : Nat → Int) (x1 : Nat → Int) (x2 : Bool) (k : ((Nat → Int) × (Nat → Int) × Bool) → Option ρ) : (K_tri_Condition g_tri_variance g___fx_Acc__Clamp (@l_0) (@l_1) x0 x1 x2 k).bind q = K_tri_Condition g_tri_variance g___fx_Acc__Clamp (@l_0) (@l_1) x0 x1 x2 (fun d => (k d).bind q) := by
  simp only [K_tri_Condition, bnd_cond, bnd_bind, bnd_none, bnd_sum, hl_0, hl_1]
theorem qa_tri_Condition : ∀ b, (QA_tri_Condition).em b = ([.r (.c (.ptr 0 (.k 0) 1)), .r (.agg [.a (.l 276) [.i .i64 b.1.2.1.1.2.1], .a (.l 24) [.i .i64 b.1.2.1.2.1.2.1]])], [[.c (.f (.b b.2.1.1))]]) := fun b => by kernel_rfl
theorem e_tri_Condition {f : (Nat → Int) → (Nat → Int) → (Bool) → Option ((Nat → Int) × (Nat → Int) × Bool)} {args : List AV} {h : List Blk} {r : Res} (hr : (F_tri_Condition f args h).eval = some r) : ∃ x0 x1 x2, args = [.r (.c (.ptr 0 (.k 0) 1)), .r (.agg [.a (.l 276) [.i .i64 x0], .a (.l 24) [.i .i64 x1]])] ∧ h = [[.c (.f (.b x2))]] ∧ (f x0 x1 x2).bind (fun (d : (Nat → Int) × (Nat → Int) × Bool) => some (Res.mk (AV.r (RV.agg [Sg.a (Sz.l 276) [Col.i IntKind.i64 d.fst], Sg.a (Sz.l 24) [Col.i IntKind.i64 d.snd.fst]])) [Ch.set [Sg.c (CV.f (FV.b d.snd.snd))]] [])) = some r := by
  unfold F_tri_Condition at hr
  split at hr
  · rename_i b hb
    have e := ((QA_tri_Condition).ok _ _ hb).trans (qa_tri_Condition b)
    rw [opt_eval2] at hr
    exact ⟨b.1.2.1.1.2.1, b.1.2.1.2.1.2.1, b.2.1.1, (Prod.mk.inj e).1, (Prod.mk.inj e).2, hr⟩
  · cases hr
theorem n_tri_Condition {σ : Type} (q : ((Nat → Int) × (Nat → Int) × Bool) → Option σ) (x0 : Nat → Int) (x1 : Nat → Int) (x2 : Bool) : (f_tri_Condition x0 x1 x2).bind q = K_tri_Condition f_tri_variance f___fx_Acc__Clamp (@L_tri_Condition_0) (@L_tri_Condition_1) x0 x1 x2 q := by
  unfold f_tri_Condition
  exact m_tri_Condition q f_tri_variance f___fx_Acc__Clamp (@L_tri_Condition_0) (@L_tri_Condition_1) (fun q d k => mL_tri_Condition_0 q d k) (fun q d k => mL_tri_Condition_1 q d k) x0 x1 x2 some
theorem s_tri_Condition : Sound Try.prog 48 (F_tri_Condition f_tri_Condition) :=
  (inl_sums (l := [(57, F_tri_variance f_tri_variance), (64, F___fx_Acc__Clamp f___fx_Acc__Clamp)]) (.cons s_tri_variance (.cons s___fx_Acc__Clamp (.nil _))) mixed (hs := ⟨[⟨2, [1, 2, 5, 6, 8, 9, 10, 11, 12, 13, 14, 15, 16, 17, 18, 19, 20, 21, 22, 23, 24, 25, 26, 27, 28, 29, 30, 31, 32, 33], []⟩, ⟨7, [1, 2, 5, 6, 7, 8, 9, 10, 11, 12, 13, 14, 15, 16, 17, 18, 19, 21, 22, 23, 24, 25, 26, 27, 28, 29, 30, 31, 32, 33], []⟩], [⟨2, 1, @R_tri_Condition_0 (@L_tri_Condition_0)⟩, ⟨7, 1, @R_tri_Condition_1 (@L_tri_Condition_1)⟩], [0], [], none⟩) (lf := 1000) (Sums.by (l := [loopIn Try.prog 48 2, loopIn Try.prog 48 7]) (lj := []) (by kernel_rfl) ⟨so_tri_Condition_0, ⟨so_tri_Condition_1, trivial⟩⟩ (by kernel_rfl) trivial) (by kernel_rfl)).by (F := F_tri_Condition f_tri_Condition) fun args b r hr => by
  obtain ⟨x0, x1, x2, rfl, rfl, hr1⟩ := e_tri_Condition hr
  exact inl_eval ((d_tri_Condition f_tri_variance f___fx_Acc__Clamp (@L_tri_Condition_0) (@L_tri_Condition_1) x0 x1 x2).trans ((n_tri_Condition (fun (d : (Nat → Int) × (Nat → Int) × Bool) => some (Res.mk (AV.r (RV.agg [Sg.a (Sz.l 276) [Col.i IntKind.i64 d.fst], Sg.a (Sz.l 24) [Col.i IntKind.i64 d.snd.fst]])) [Ch.set [Sg.c (CV.f (FV.b d.snd.snd))]] [])) x0 x1 x2).symm.trans hr1))

def K_tri_Good {ρ : Type} (g_tri_Condition : (Nat → Int) → (Nat → Int) → Bool → Option ((Nat → Int) × (Nat → Int) × Bool))  (x0 : Nat → Int) (x1 : Nat → Int) (k : (Bool) → Option ρ) : Option ρ :=
  Option.bind (g_tri_Condition x0 x1 false) fun (d : (Nat → Int) × (Nat → Int) × Bool) => k !d.snd.snd
def f_tri_Good (x0 : Nat → Int) (x1 : Nat → Int) : Option (Bool) := K_tri_Good f_tri_Condition  x0 x1 some
section
open Go.Ab.Rdr
def QA_tri_Good := ((pair (cons (ar (ra (cons (ga (szl (nat 276)) (cons (ki .i64 hole) nil)) (cons (ga (szl (nat 24)) (cons (ki .i64 hole) nil)) nil)))) nil) nil) : Rdr (List AV × List Blk) _)
end
def F_tri_Good (f : (Nat → Int) → (Nat → Int) → Option (Bool)) : Sem1 := fun args h => match (QA_tri_Good).rd (args, h) with
  | some b => .opt (f b.1.1.1.2.1 b.1.1.2.1.2.1) fun (d : Bool) => .leaf (Res.mk (AV.r (RV.c (CV.f (FV.b d)))) [] [])
  | none => .fail
theorem d_tri_Good (g_tri_Condition : (Nat → Int) → (Nat → Int) → Bool → Option ((Nat → Int) × (Nat → Int) × Bool))  (x0 : Nat → Int) (x1 : Nat → Int) : den Try.prog (envOf [(48, F_tri_Condition g_tri_Condition)]) ⟨[], [], [], [], none⟩ 200 41 [.r (.agg [.a (.l 276) [.i .i64 x0], .a (.l 24) [.i .i64 x1]])] [] =
    K_tri_Good g_tri_Condition  x0 x1 (fun (d : Bool) => some (Res.mk (AV.r (RV.c (CV.f (FV.b d)))) [] [])) := by kernel_rfl
theorem m_tri_Good {ρ σ : Type} (q : ρ → Option σ) (g_tri_Condition : (Nat → Int) → (Nat → Int) → Bool → Option ((Nat → Int) × (Nat → Int) × Bool))   (x0 : Nat → Int) (x1 : Nat → Int) (k : (Bool) → Option ρ) : (K_tri_Good g_tri_Condition  x0 x1 k).bind q = K_tri_Good g_tri_Condition  x0 x1 (fun d => (k d).bind q) := by
  simp only [K_tri_Good, bnd_cond, bnd_bind, bnd_none, bnd_sum]
theorem qa_tri_Good : ∀ b, (QA_tri_Good).em b = ([.r (.agg [.a (.l 276) [.i .i64 b.1.1.1.2.1], .a (.l 24) [.i .i64 b.1.1.2.1.2.1]])], []) := fun b => by kernel_rfl
theorem e_tri_Good {f : (Nat → Int) → (Nat → Int) → Option (Bool)} {args : List AV} {h : List Blk} {r : Res} (hr : (F_tri_Good f args h).eval = some r) : ∃ x0 x1, args = [.r (.agg [.a (.l 276) [.i .i64 x0], .a (.l 24) [.i .i64 x1]])] ∧ h = [] ∧ (f x0 x1).bind (fun (d : Bool) => some (Res.mk (AV.r (RV.c (CV.f (FV.b d)))) [] [])) = some r := by
  unfold F_tri_Good at hr
  split at hr
  · rename_i b hb
    have e := ((QA_tri_Good).ok _ _ hb).trans (qa_tri_Good b)
    rw [opt_eval2] at hr
    exact ⟨b.1.1.1.2.1, b.1.1.2.1.2.1, (Prod.mk.inj e).1, (Prod.mk.inj e).2, hr⟩
  · cases hr
theorem n_tri_Good {σ : Type} (q : (Bool) → Option σ) (x0 : Nat → Int) (x1 : Nat → Int) : (f_tri_Good x0 x1).bind q = K_tri_Good f_tri_Condition  x0 x1 q := by
  unfold f_tri_Good
  exact m_tri_Good q f_tri_Condition   x0 x1 some
theorem s_tri_Good : Sound Try.prog 41 (F_tri_Good f_tri_Good) :=
  (inl_sound (l := [(48, F_tri_Condition f_tri_Condition)]) (.cons s_tri_Condition (.nil _)) mixed [] [] 200 (by kernel_rfl)).by (F := F_tri_Good f_tri_Good) fun args b r hr => by
  obtain ⟨x0, x1, rfl, rfl, hr1⟩ := e_tri_Good hr
  exact inl_eval ((d_tri_Good f_tri_Condition  x0 x1).trans ((n_tri_Good (fun (d : Bool) => some (Res.mk (AV.r (RV.c (CV.f (FV.b d)))) [] [])) x0 x1).symm.trans hr1))

def S_tri_Most_0 {ρ : Type}   (x0 : Int) (x1 : Nat → Int) (x2 : Int) (c : (Int × (Nat → Int) × Int) → Option ρ) (x : (Int × (Nat → Int) × Int × Bool) → Option ρ) : Option ρ :=
  bif decide (x2 < 24) then bif inR x2 24 then c (if x1 (Int.toNat x2) > x0 then x1 (Int.toNat x2) else x0, x1, IntKind.wrap IntKind.i64 (x2 + 1)) else none else x (x0, x1, x2, decide (x2 < 24))
section
open Go.Ab.Rdr
def Q_tri_Most_0 := (st (cons aund (cons aund (cons aund (cons (ar (rc (cf (fi .i64 hole)))) (cons aund (cons aund (cons aund (cons aund (cons aund (cons aund (cons (ar (ra (cons (ga (szl (nat 24)) (cons (ki .i64 hole) nil)) nil))) (cons (ar (rc (cf (fi .i64 hole)))) (cons aund (cons aund (cons aund (cons aund (cons aund (cons aund (cons aund nil))))))))))))))))))) nil nil)
end
theorem q_tri_Most_0 : ∀ b, (Q_tri_Most_0).em b = St.mk
    [AV.und, AV.und, AV.und, AV.r (RV.c (CV.f (FV.i IntKind.i64 b.1.2.2.2.1))), AV.und, AV.und, AV.und, AV.und, AV.und, AV.und, AV.r (RV.agg [Sg.a (Sz.l 24) [Col.i IntKind.i64 b.1.2.2.2.2.2.2.2.2.2.2.1.1.2.1]]),
      AV.r (RV.c (CV.f (FV.i IntKind.i64 b.1.2.2.2.2.2.2.2.2.2.2.2.1))), AV.und, AV.und, AV.und, AV.und, AV.und, AV.und, AV.und]
    [] [] := fun b => by kernel_rfl
def R_tri_Most_0 (l : ∀ {ρ : Type}, (Int × (Nat → Int) × Int) → ((Int × (Nat → Int) × Int × Bool) → Option ρ) → Option ρ) {ρ : Type} (s : St) (K : AX → St → Option ρ) : Option ρ := ((Q_tri_Most_0).rd s).bind fun b => l (b.1.2.2.2.1, b.1.2.2.2.2.2.2.2.2.2.2.1.1.2.1, b.1.2.2.2.2.2.2.2.2.2.2.2.1) (fun d => K (AX.ex 0) (St.mk
  [AV.und, AV.und, AV.und, AV.r (RV.c (CV.f (FV.i IntKind.i64 d.fst))), AV.und, AV.und, AV.und, AV.und, AV.und, AV.und, AV.r (RV.agg [Sg.a (Sz.l 24) [Col.i IntKind.i64 d.snd.fst]]),
    AV.r (RV.c (CV.f (FV.i IntKind.i64 d.snd.snd.fst))), AV.r (RV.c (CV.f (FV.b d.snd.snd.snd))), AV.und, AV.und, AV.und, AV.und, AV.und, AV.und]
  [] []))
theorem ms_tri_Most_0 {ρ σ : Type}    (q : ρ → Option σ) (x0 : Int) (x1 : Nat → Int) (x2 : Int) (c : (Int × (Nat → Int) × Int) → Option ρ) (x : (Int × (Nat → Int) × Int × Bool) → Option ρ) : (S_tri_Most_0   x0 x1 x2 c x).bind q = S_tri_Most_0   x0 x1 x2 (fun d => (c d).bind q) (fun d => (x d).bind q) := by
  simp only [S_tri_Most_0, bnd_cond, bnd_bind, bnd_none, bnd_sum]
def L_tri_Most_0 {ρ : Type} (d : Int × (Nat → Int) × Int) (k : (Int × (Nat → Int) × Int × Bool) → Option ρ) : Option ρ := loopK (fun d c x => S_tri_Most_0   d.1 d.2.1 d.2.2 c x) 200 d k
theorem mL_tri_Most_0 {ρ σ : Type} (q : ρ → Option σ) (d : Int × (Nat → Int) × Int) (k : (Int × (Nat → Int) × Int × Bool) → Option ρ) : (L_tri_Most_0 d k).bind q = L_tri_Most_0 d fun x => (k x).bind q :=
  loopK_bind q (fun d c x => ms_tri_Most_0    q d.1 d.2.1 d.2.2 c x) k _ d
theorem ds_tri_Most_0 {ρ : Type}  (l_0 : ∀ {ρ : Type}, (Int × (Nat → Int) × Int) → ((Int × (Nat → Int) × Int × Bool) → Option ρ) → Option ρ) (x0 : Int) (x1 : Nat → Int) (x2 : Int) (c : St → Option ρ) (K : AX → St → Option ρ) :
    runC Try.prog (envOf []) ⟨[⟨3, [0, 1, 2, 4, 5, 6, 7, 8, 9, 12, 13, 14, 15, 16, 17, 18], []⟩], [⟨3, 0, @R_tri_Most_0 (@l_0)⟩], [], [], none⟩ (tmpsOf Try.prog 51) 0 200 (loopIn Try.prog 51 3)
      (St.mk
    [AV.und, AV.und, AV.und, AV.r (RV.c (CV.f (FV.i IntKind.i64 x0))), AV.und, AV.und, AV.und, AV.und, AV.und, AV.und, AV.r (RV.agg [Sg.a (Sz.l 24) [Col.i IntKind.i64 x1]]),
      AV.r (RV.c (CV.f (FV.i IntKind.i64 x2))), AV.und, AV.und, AV.und, AV.und, AV.und, AV.und, AV.und]
    [] [])
      (next (fun t => t.head 0 ⟨[⟨3, [0, 1, 2, 4, 5, 6, 7, 8, 9, 12, 13, 14, 15, 16, 17, 18], []⟩], [⟨3, 0, @R_tri_Most_0 (@l_0)⟩], [], [], none⟩ (loopIn Try.prog 51 3)) c K) =
    S_tri_Most_0   x0 x1 x2 (fun d => c (St.mk
  [AV.und, AV.und, AV.und, AV.r (RV.c (CV.f (FV.i IntKind.i64 d.fst))), AV.und, AV.und, AV.und, AV.und, AV.und, AV.und, AV.r (RV.agg [Sg.a (Sz.l 24) [Col.i IntKind.i64 d.snd.fst]]),
    AV.r (RV.c (CV.f (FV.i IntKind.i64 d.snd.snd))), AV.und, AV.und, AV.und, AV.und, AV.und, AV.und, AV.und]
  [] [])) (fun d => K (AX.ex 0) (St.mk
  [AV.und, AV.und, AV.und, AV.r (RV.c (CV.f (FV.i IntKind.i64 d.fst))), AV.und, AV.und, AV.und, AV.und, AV.und, AV.und, AV.r (RV.agg [Sg.a (Sz.l 24) [Col.i IntKind.i64 d.snd.fst]]),
    AV.r (RV.c (CV.f (FV.i IntKind.i64 d.snd.snd.fst))), AV.r (RV.c (CV.f (FV.b d.snd.snd.snd))), AV.und, AV.und, AV.und, AV.und, AV.und, AV.und]
  [] [])) := by kernel_rfl
theorem it_tri_Most_0 {ρ : Type} (x0 : Int) (x1 : Nat → Int) (x2 : Int) (K : AX → St → Option ρ) :
    iter (fun t => t.head 0 ⟨[⟨3, [0, 1, 2, 4, 5, 6, 7, 8, 9, 12, 13, 14, 15, 16, 17, 18], []⟩], [⟨3, 0, @R_tri_Most_0 (@L_tri_Most_0)⟩], [], [], none⟩ (loopIn Try.prog 51 3)) (runC Try.prog (envOf []) ⟨[⟨3, [0, 1, 2, 4, 5, 6, 7, 8, 9, 12, 13, 14, 15, 16, 17, 18], []⟩], [⟨3, 0, @R_tri_Most_0 (@L_tri_Most_0)⟩], [], [], none⟩ (tmpsOf Try.prog 51) 0 200 (loopIn Try.prog 51 3)) K 200
      (St.mk
    [AV.und, AV.und, AV.und, AV.r (RV.c (CV.f (FV.i IntKind.i64 x0))), AV.und, AV.und, AV.und, AV.und, AV.und, AV.und, AV.r (RV.agg [Sg.a (Sz.l 24) [Col.i IntKind.i64 x1]]),
      AV.r (RV.c (CV.f (FV.i IntKind.i64 x2))), AV.und, AV.und, AV.und, AV.und, AV.und, AV.und, AV.und]
    [] []) = L_tri_Most_0 (x0, x1, x2) (fun d => K (AX.ex 0) (St.mk
  [AV.und, AV.und, AV.und, AV.r (RV.c (CV.f (FV.i IntKind.i64 d.fst))), AV.und, AV.und, AV.und, AV.und, AV.und, AV.und, AV.r (RV.agg [Sg.a (Sz.l 24) [Col.i IntKind.i64 d.snd.fst]]),
    AV.r (RV.c (CV.f (FV.i IntKind.i64 d.snd.snd.fst))), AV.r (RV.c (CV.f (FV.b d.snd.snd.snd))), AV.und, AV.und, AV.und, AV.und, AV.und, AV.und]
  [] [])) :=
  iter_loopX (emb := fun (d : Int × (Nat → Int) × Int) => St.mk
  [AV.und, AV.und, AV.und, AV.r (RV.c (CV.f (FV.i IntKind.i64 d.fst))), AV.und, AV.und, AV.und, AV.und, AV.und, AV.und, AV.r (RV.agg [Sg.a (Sz.l 24) [Col.i IntKind.i64 d.snd.fst]]),
    AV.r (RV.c (CV.f (FV.i IntKind.i64 d.snd.snd))), AV.und, AV.und, AV.und, AV.und, AV.und, AV.und, AV.und]
  [] []) (step := fun d c x => S_tri_Most_0   d.1 d.2.1 d.2.2 c x) (kx := (fun d => K (AX.ex 0) (St.mk
  [AV.und, AV.und, AV.und, AV.r (RV.c (CV.f (FV.i IntKind.i64 d.fst))), AV.und, AV.und, AV.und, AV.und, AV.und, AV.und, AV.r (RV.agg [Sg.a (Sz.l 24) [Col.i IntKind.i64 d.snd.fst]]),
    AV.r (RV.c (CV.f (FV.i IntKind.i64 d.snd.snd.fst))), AV.r (RV.c (CV.f (FV.b d.snd.snd.snd))), AV.und, AV.und, AV.und, AV.und, AV.und, AV.und]
  [] [])))
    (fun d c => ds_tri_Most_0  (@L_tri_Most_0) d.1 d.2.1 d.2.2 c K) 200 (x0, x1, x2)
theorem so_tri_Most_0 : ∀ kk, SumOK Try.prog (envOf []) ⟨[⟨3, [0, 1, 2, 4, 5, 6, 7, 8, 9, 12, 13, 14, 15, 16, 17, 18], []⟩], [⟨3, 0, @R_tri_Most_0 (@L_tri_Most_0)⟩], [], [], none⟩ (tmpsOf Try.prog 51) kk 200 (loopIn Try.prog 51 3) :=
  SumOK.of (id := 3) (k0 := 0) (run := @R_tri_Most_0 (@L_tri_Most_0)) (by kernel_rfl) fun s K r hr => by
    unfold R_tri_Most_0 at hr
    obtain ⟨b, hb, hr1⟩ := Option.bind_eq_some_iff.1 hr
    have e := ((Q_tri_Most_0).ok s b hb).trans (q_tri_Most_0 b)
    subst e
    exact ⟨200, (it_tri_Most_0 b.1.2.2.2.1 b.1.2.2.2.2.2.2.2.2.2.2.1.1.2.1 b.1.2.2.2.2.2.2.2.2.2.2.2.1 K).trans hr1⟩
def K_tri_Most {ρ : Type}  (l_0 : ∀ {ρ : Type}, (Int × (Nat → Int) × Int) → ((Int × (Nat → Int) × Int × Bool) → Option ρ) → Option ρ) (x0 : Nat → Int) (x1 : Nat → Int) (k : (Int) → Option ρ) : Option ρ :=
  l_0 (x1 0, x1, 0) fun (d : Int × (Nat → Int) × Int × Bool) => k d.fst
def f_tri_Most (x0 : Nat → Int) (x1 : Nat → Int) : Option (Int) := K_tri_Most  (@L_tri_Most_0) x0 x1 some
section
open Go.Ab.Rdr
def QA_tri_Most := ((pair (cons (ar (ra (cons (ga (szl (nat 276)) (cons (ki .i64 hole) nil)) (cons (ga (szl (nat 24)) (cons (ki .i64 hole) nil)) nil)))) nil) nil) : Rdr (List AV × List Blk) _)
end
def F_tri_Most (f : (Nat → Int) → (Nat → Int) → Option (Int)) : Sem1 := fun args h => match (QA_tri_Most).rd (args, h) with
  | some b => .opt (f b.1.1.1.2.1 b.1.1.2.1.2.1) fun (d : Int) => .leaf (Res.mk (AV.r (RV.c (CV.f (FV.i IntKind.i64 d)))) [] [])
  | none => .fail
theorem d_tri_Most  (l_0 : ∀ {ρ : Type}, (Int × (Nat → Int) × Int) → ((Int × (Nat → Int) × Int × Bool) → Option ρ) → Option ρ) (x0 : Nat → Int) (x1 : Nat → Int) : den Try.prog (envOf []) ⟨[⟨3, [0, 1, 2, 4, 5, 6, 7, 8, 9, 12, 13, 14, 15, 16, 17, 18], []⟩], [⟨3, 0, @R_tri_Most_0 (@l_0)⟩], [], [], none⟩ 200 51 [.r (.agg [.a (.l 276) [.i .i64 x0], .a (.l 24) [.i .i64 x1]])] [] =
    K_tri_Most  (@l_0) x0 x1 (fun (d : Int) => some (Res.mk (AV.r (RV.c (CV.f (FV.i IntKind.i64 d)))) [] [])) := by kernel_rfl
theorem m_tri_Most {ρ σ : Type} (q : ρ → Option σ)  (l_0 : ∀ {ρ : Type}, (Int × (Nat → Int) × Int) → ((Int × (Nat → Int) × Int × Bool) → Option ρ) → Option ρ) (hl_0 : ∀ {ρ σ : Type} (q : ρ → Option σ) (d : Int × (Nat → Int) × Int) (k : (Int × (Nat → Int) × Int × Bool) → Option ρ), (l_0 d k).bind q = l_0 d fun x => (k x).bind q) (x0 : Nat → Int) (x1 : Nat → Int) (k : (Int) → Option ρ) : (K_tri_Most  (@l_0) x0 x1 k).bind q = K_tri_Most  (@l_0) x0 x1 (fun d => (k d).bind q) := by
  simp only [K_tri_Most, bnd_cond, bnd_bind, bnd_none, bnd_sum, hl_0]
theorem qa_tri_Most : ∀ b, (QA_tri_Most).em b = ([.r (.agg [.a (.l 276) [.i .i64 b.1.1.1.2.1], .a (.l 24) [.i .i64 b.1.1.2.1.2.1]])], []) := fun b => by kernel_rfl
theorem e_tri_Most {f : (Nat → Int) → (Nat → Int) → Option (Int)} {args : List AV} {h : List Blk} {r : Res} (hr : (F_tri_Most f args h).eval = some r) : ∃ x0 x1, args = [.r (.agg [.a (.l 276) [.i .i64 x0], .a (.l 24) [.i .i64 x1]])] ∧ h = [] ∧ (f x0 x1).bind (fun (d : Int) => some (Res.mk (AV.r (RV.c (CV.f (FV.i IntKind.i64 d)))) [] [])) = some r := by
  unfold F_tri_Most at hr
  split at hr
  · rename_i b hb
    have e := ((QA_tri_Most).ok _ _ hb).trans (qa_tri_Most b)
    rw [opt_eval2] at hr
    exact ⟨b.1.1.1.2.1, b.1.1.2.1.2.1, (Prod.mk.inj e).1, (Prod.mk.inj e).2, hr⟩
  · cases hr
theorem n_tri_Most {σ : Type} (q : (Int) → Option σ) (x0 : Nat → Int) (x1 : Nat → Int) : (f_tri_Most x0 x1).bind q = K_tri_Most  (@L_tri_Most_0) x0 x1 q := by
  unfold f_tri_Most
  exact m_tri_Most q  (@L_tri_Most_0) (fun q d k => mL_tri_Most_0 q d k) x0 x1 some
theorem s_tri_Most : Sound Try.prog 51 (F_tri_Most f_tri_Most) :=
  (inl_sums (l := []) (.nil _) mixed (hs := ⟨[⟨3, [0, 1, 2, 4, 5, 6, 7, 8, 9, 12, 13, 14, 15, 16, 17, 18], []⟩], [⟨3, 0, @R_tri_Most_0 (@L_tri_Most_0)⟩], [], [], none⟩) (lf := 200) (Sums.by (l := [loopIn Try.prog 51 3]) (lj := []) (by kernel_rfl) ⟨so_tri_Most_0, trivial⟩ (by kernel_rfl) trivial) (by kernel_rfl)).by (F := F_tri_Most f_tri_Most) fun args b r hr => by
  obtain ⟨x0, x1, rfl, rfl, hr1⟩ := e_tri_Most hr
  exact inl_eval ((d_tri_Most  (@L_tri_Most_0) x0 x1).trans ((n_tri_Most (fun (d : Int) => some (Res.mk (AV.r (RV.c (CV.f (FV.i IntKind.i64 d)))) [] [])) x0 x1).symm.trans hr1))

end Go.Proofs.Ytmlmpcabphgfaaa
