/-
  Contracts by plain functions: astrolabelaw14.own, astrolaberef13.Good, (*astrolaberef13.Sampler).Put, astrolabelaw14.DownsPlays
-/
import Derived.Test.YtmlmpcabphgfaaaD2
set_option maxRecDepth 100000
set_option maxHeartbeats 4000000
set_option linter.unusedVariables false
namespace Go.Proofs.Ytmlmpcabphgfaaa
open Go.Ab
def K_astrolabelaw14_own {ρ : Type}   (x0 : Int) (k : (Int) → Option ρ) : Option ρ :=
  k x0
def f_astrolabelaw14_own (x0 : Int) : Option (Int) := K_astrolabelaw14_own   x0 some
section
open Go.Ab.Rdr
def QA_astrolabelaw14_own := ((pair (cons (ar (rc (cf (fi .i64 hole)))) nil) nil) : Rdr (List AV × List Blk) _)
end
def F_astrolabelaw14_own (f : (Int) → Option (Int)) : Sem1 := fun args h => match (QA_astrolabelaw14_own).rd (args, h) with
  | some b => .opt (f b.1.1) fun (d : Int) => .leaf (Res.mk (AV.r (RV.c (CV.ptr 0 (Off.k 0) 10))) []
    [[Sg.c (CV.f (FV.i IntKind.i64 d)), Sg.c (CV.f (FV.i IntKind.i64 (-1))), Sg.c (CV.f (FV.i IntKind.i64 0)), Sg.c (CV.f (FV.i IntKind.i64 0)), Sg.c (CV.f (FV.i IntKind.i64 0)),
        Sg.c (CV.f (FV.i IntKind.i64 0)), Sg.c (CV.f (FV.i IntKind.i64 0)), Sg.c (CV.f (FV.i IntKind.i64 0)), Sg.c (CV.f (FV.i IntKind.i64 0)), Sg.c (CV.f (FV.i IntKind.i64 0))]])
  | none => .fail
theorem d_astrolabelaw14_own   (x0 : Int) : den Try.prog (envOf []) ⟨[], [], [], [], none⟩ 200 36 [.r (.c (.f (.i .i64 x0)))] [] =
    K_astrolabelaw14_own   x0 (fun (d : Int) => some (Res.mk (AV.r (RV.c (CV.ptr 0 (Off.k 0) 10))) []
    [[Sg.c (CV.f (FV.i IntKind.i64 d)), Sg.c (CV.f (FV.i IntKind.i64 (-1))), Sg.c (CV.f (FV.i IntKind.i64 0)), Sg.c (CV.f (FV.i IntKind.i64 0)), Sg.c (CV.f (FV.i IntKind.i64 0)),
        Sg.c (CV.f (FV.i IntKind.i64 0)), Sg.c (CV.f (FV.i IntKind.i64 0)), Sg.c (CV.f (FV.i IntKind.i64 0)), Sg.c (CV.f (FV.i IntKind.i64 0)), Sg.c (CV.f (FV.i IntKind.i64 0))]])) := by kernel_rfl
theorem m_astrolabelaw14_own {ρ σ : Type} (q : ρ → Option σ)    (x0 : Int) (k : (Int) → Option ρ) : (K_astrolabelaw14_own   x0 k).bind q = K_astrolabelaw14_own   x0 (fun d => (k d).bind q) := by
  simp only [K_astrolabelaw14_own, bnd_cond, bnd_bind, bnd_none, bnd_sum]
theorem qa_astrolabelaw14_own : ∀ b, (QA_astrolabelaw14_own).em b = ([.r (.c (.f (.i .i64 b.1.1)))], []) := fun b => by kernel_rfl
theorem e_astrolabelaw14_own {f : (Int) → Option (Int)} {args : List AV} {h : List Blk} {r : Res} (hr : (F_astrolabelaw14_own f args h).eval = some r) : ∃ x0, args = [.r (.c (.f (.i .i64 x0)))] ∧ h = [] ∧ (f x0).bind (fun (d : Int) => some (Res.mk (AV.r (RV.c (CV.ptr 0 (Off.k 0) 10))) []
    [[Sg.c (CV.f (FV.i IntKind.i64 d)), Sg.c (CV.f (FV.i IntKind.i64 (-1))), Sg.c (CV.f (FV.i IntKind.i64 0)), Sg.c (CV.f (FV.i IntKind.i64 0)), Sg.c (CV.f (FV.i IntKind.i64 0)),
        Sg.c (CV.f (FV.i IntKind.i64 0)), Sg.c (CV.f (FV.i IntKind.i64 0)), Sg.c (CV.f (FV.i IntKind.i64 0)), Sg.c (CV.f (FV.i IntKind.i64 0)), Sg.c (CV.f (FV.i IntKind.i64 0))]])) = some r := by
  unfold F_astrolabelaw14_own at hr
  split at hr
  · rename_i b hb
    have e := ((QA_astrolabelaw14_own).ok _ _ hb).trans (qa_astrolabelaw14_own b)
    rw [opt_eval2] at hr
    exact ⟨b.1.1, (Prod.mk.inj e).1, (Prod.mk.inj e).2, hr⟩
  · cases hr
theorem n_astrolabelaw14_own {σ : Type} (q : (Int) → Option σ) (x0 : Int) : (f_astrolabelaw14_own x0).bind q = K_astrolabelaw14_own   x0 q := by
  unfold f_astrolabelaw14_own
  exact m_astrolabelaw14_own q    x0 some
theorem s_astrolabelaw14_own : Sound Try.prog 36 (F_astrolabelaw14_own f_astrolabelaw14_own) :=
  (inl_sound (l := []) (.nil _) mixed [] [] 200 (by kernel_rfl)).by (F := F_astrolabelaw14_own f_astrolabelaw14_own) fun args b r hr => by
  obtain ⟨x0, rfl, rfl, hr1⟩ := e_astrolabelaw14_own hr
  exact inl_eval ((d_astrolabelaw14_own   x0).trans ((n_astrolabelaw14_own (fun (d : Int) => some (Res.mk (AV.r (RV.c (CV.ptr 0 (Off.k 0) 10))) []
    [[Sg.c (CV.f (FV.i IntKind.i64 d)), Sg.c (CV.f (FV.i IntKind.i64 (-1))), Sg.c (CV.f (FV.i IntKind.i64 0)), Sg.c (CV.f (FV.i IntKind.i64 0)), Sg.c (CV.f (FV.i IntKind.i64 0)),
        Sg.c (CV.f (FV.i IntKind.i64 0)), Sg.c (CV.f (FV.i IntKind.i64 0)), Sg.c (CV.f (FV.i IntKind.i64 0)), Sg.c (CV.f (FV.i IntKind.i64 0)), Sg.c (CV.f (FV.i IntKind.i64 0))]])) x0).symm.trans hr1))

def K_astrolaberef13_Good {ρ : Type}   (x0 : Int) (x1 : Int) (x2 : Int) (x3 : Int) (x4 : Int) (x5 : Int) (x6 : Int) (x7 : Int) (k : (Bool) → Option ρ) : Option ρ :=
  bif decide (x1 < 1) then k false
  else
    bif decide (x1 > 100000) then k false
    else
      bif decide (x0 < 0) then k false
      else
        bif decide (x0 > 1125899906842624) then k false
        else
          bif decide (x2 < -34359738368) then k false
          else
            bif decide (x2 > 34359738368) then k false
            else
              bif decide (x5 < -34359738368) then k false
              else
                bif decide (x5 > 34359738368) then k false
                else
                  bif decide (x3 < -34359738368) then k false
                  else
                    bif decide (x3 > 34359738368) then k false
                    else
                      bif decide (x6 < -34359738368) then k false
                      else
                        bif decide (x6 > 34359738368) then k false
                        else
                          bif decide (x4 < -34359738368) then k false
                          else bif decide (x4 > 34359738368) then k false else bif decide (x7 < -34359738368) then k false else bif decide (x7 > 34359738368) then k false else k true
def f_astrolaberef13_Good (x0 : Int) (x1 : Int) (x2 : Int) (x3 : Int) (x4 : Int) (x5 : Int) (x6 : Int) (x7 : Int) : Option (Bool) := K_astrolaberef13_Good   x0 x1 x2 x3 x4 x5 x6 x7 some
section
open Go.Ab.Rdr
def QA_astrolaberef13_Good := ((pair (cons (ar (ra (cons (gc (cf (fi .i64 hole))) (cons (gc (cf (fi .i64 hole))) (cons (gc (cf (fi .i64 hole))) (cons (gc (cf (fi .i64 hole))) (cons (gc (cf (fi .i64 hole))) (cons (gc (cf (fi .i64 hole))) (cons (gc (cf (fi .i64 hole))) (cons (gc (cf (fi .i64 hole))) nil)))))))))) nil) nil) : Rdr (List AV × List Blk) _)
end
def F_astrolaberef13_Good (f : (Int) → (Int) → (Int) → (Int) → (Int) → (Int) → (Int) → (Int) → Option (Bool)) : Sem1 := fun args h => match (QA_astrolaberef13_Good).rd (args, h) with
  | some b => .opt (f b.1.1.1 b.1.1.2.1 b.1.1.2.2.1 b.1.1.2.2.2.1 b.1.1.2.2.2.2.1 b.1.1.2.2.2.2.2.1 b.1.1.2.2.2.2.2.2.1 b.1.1.2.2.2.2.2.2.2.1) fun (d : Bool) => .leaf (Res.mk (AV.r (RV.c (CV.f (FV.b d)))) [] [])
  | none => .fail
theorem d_astrolaberef13_Good   (x0 : Int) (x1 : Int) (x2 : Int) (x3 : Int) (x4 : Int) (x5 : Int) (x6 : Int) (x7 : Int) : den Try.prog (envOf []) ⟨[⟨4, [0, 2, 4, 6, 7, 8, 9, 10, 11, 13, 14, 15, 16, 17, 18, 20, 21, 22, 23, 24, 25, 26, 27, 28, 29, 30, 31, 37, 38, 44, 45, 51], []⟩], [], [], [], (some ⟨0, [0, 1, 3, 4, 5, 6, 7, 8, 9, 10, 11, 12, 13, 14, 15, 16, 17, 18, 19, 20, 21, 22, 23, 24, 25, 26, 27, 28, 29, 30, 31, 32, 33, 34, 35, 36, 37, 38, 39, 40, 41, 42, 43, 44, 45, 46, 47, 48, 49, 50, 51], []⟩)⟩ 200 38 [.r (.agg [.c (.f (.i .i64 x0)), .c (.f (.i .i64 x1)), .c (.f (.i .i64 x2)), .c (.f (.i .i64 x3)), .c (.f (.i .i64 x4)), .c (.f (.i .i64 x5)), .c (.f (.i .i64 x6)), .c (.f (.i .i64 x7))])] [] =
    K_astrolaberef13_Good   x0 x1 x2 x3 x4 x5 x6 x7 (fun (d : Bool) => some (Res.mk (AV.r (RV.c (CV.f (FV.b d)))) [] [])) := by kernel_rfl
theorem m_astrolaberef13_Good {ρ σ : Type} (q : ρ → Option σ)    (x0 : Int) (x1 : Int) (x2 : Int) (x3 : Int) (x4 : Int) (x5 : Int) (x6 : Int) (x7 : Int) (k : (Bool) → Option ρ) : (K_astrolaberef13_Good   x0 x1 x2 x3 x4 x5 x6 x7 k).bind q = K_astrolaberef13_Good   x0 x1 x2 x3 x4 x5 x6 x7 (fun d => (k d).bind q) := by
  simp only [K_astrolaberef13_Good, bnd_cond, bnd_bind, bnd_none, bnd_sum]
theorem qa_astrolaberef13_Good : ∀ b, (QA_astrolaberef13_Good).em b = ([.r (.agg [.c (.f (.i .i64 b.1.1.1)), .c (.f (.i .i64 b.1.1.2.1)), .c (.f (.i .i64 b.1.1.2.2.1)), .c (.f (.i .i64 b.1.1.2.2.2.1)), .c (.f (.i .i64 b.1.1.2.2.2.2.1)), .c (.f (.i .i64 b.1.1.2.2.2.2.2.1)), .c (.f (.i .i64 b.1.1.2.2.2.2.2.2.1)), .c (.f (.i .i64 b.1.1.2.2.2.2.2.2.2.1))])], []) := fun b => by kernel_rfl
theorem e_astrolaberef13_Good {f : (Int) → (Int) → (Int) → (Int) → (Int) → (Int) → (Int) → (Int) → Option (Bool)} {args : List AV} {h : List Blk} {r : Res} (hr : (F_astrolaberef13_Good f args h).eval = some r) : ∃ x0 x1 x2 x3 x4 x5 x6 x7, args = [.r (.agg [.c (.f (.i .i64 x0)), .c (.f (.i .i64 x1)), .c (.f (.i .i64 x2)), .c (.f (.i .i64 x3)), .c (.f (.i .i64 x4)), .c (.f (.i .i64 x5)), .c (.f (.i .i64 x6)), .c (.f (.i .i64 x7))])] ∧ h = [] ∧ (f x0 x1 x2 x3 x4 x5 x6 x7).bind (fun (d : Bool) => some (Res.mk (AV.r (RV.c (CV.f (FV.b d)))) [] [])) = some r := by
  unfold F_astrolaberef13_Good at hr
  split at hr
  · rename_i b hb
    have e := ((QA_astrolaberef13_Good).ok _ _ hb).trans (qa_astrolaberef13_Good b)
    rw [opt_eval2] at hr
    exact ⟨b.1.1.1, b.1.1.2.1, b.1.1.2.2.1, b.1.1.2.2.2.1, b.1.1.2.2.2.2.1, b.1.1.2.2.2.2.2.1, b.1.1.2.2.2.2.2.2.1, b.1.1.2.2.2.2.2.2.2.1, (Prod.mk.inj e).1, (Prod.mk.inj e).2, hr⟩
  · cases hr
theorem n_astrolaberef13_Good {σ : Type} (q : (Bool) → Option σ) (x0 : Int) (x1 : Int) (x2 : Int) (x3 : Int) (x4 : Int) (x5 : Int) (x6 : Int) (x7 : Int) : (f_astrolaberef13_Good x0 x1 x2 x3 x4 x5 x6 x7).bind q = K_astrolaberef13_Good   x0 x1 x2 x3 x4 x5 x6 x7 q := by
  unfold f_astrolaberef13_Good
  exact m_astrolaberef13_Good q    x0 x1 x2 x3 x4 x5 x6 x7 some
theorem s_astrolaberef13_Good : Sound Try.prog 38 (F_astrolaberef13_Good f_astrolaberef13_Good) :=
  (inl_sums (l := []) (.nil _) mixed (hs := ⟨[⟨4, [0, 2, 4, 6, 7, 8, 9, 10, 11, 13, 14, 15, 16, 17, 18, 20, 21, 22, 23, 24, 25, 26, 27, 28, 29, 30, 31, 37, 38, 44, 45, 51], []⟩], [], [], [], (some ⟨0, [0, 1, 3, 4, 5, 6, 7, 8, 9, 10, 11, 12, 13, 14, 15, 16, 17, 18, 19, 20, 21, 22, 23, 24, 25, 26, 27, 28, 29, 30, 31, 32, 33, 34, 35, 36, 37, 38, 39, 40, 41, 42, 43, 44, 45, 46, 47, 48, 49, 50, 51], []⟩)⟩) (lf := 200) (Sums.by (l := [loopIn Try.prog 38 4]) (lj := []) (by kernel_rfl) ⟨SumOK.no (by kernel_rfl), trivial⟩ (by kernel_rfl) trivial) (by kernel_rfl)).by (F := F_astrolaberef13_Good f_astrolaberef13_Good) fun args b r hr => by
  obtain ⟨x0, x1, x2, x3, x4, x5, x6, x7, rfl, rfl, hr1⟩ := e_astrolaberef13_Good hr
  exact inl_eval ((d_astrolaberef13_Good   x0 x1 x2 x3 x4 x5 x6 x7).trans ((n_astrolaberef13_Good (fun (d : Bool) => some (Res.mk (AV.r (RV.c (CV.f (FV.b d)))) [] [])) x0 x1 x2 x3 x4 x5 x6 x7).symm.trans hr1))

def K___astrolaberef13_Sampler__Put {ρ : Type} (g_astrolaberef13_Good : Int → Int → Int → Int → Int → Int → Int → Int → Option Bool)  (x0 : Int) (x1 : Int) (x2 : Int) (x3 : Int) (x4 : Int) (x5 : Int) (x6 : Int) (x7 : Int) (x8 : Int) (x9 : Int) (x10 : Int) (x11 : Int) (x12 : Int) (x13 : Int) (x14 : Int) (x15 : Int) (x16 : Int) (x17 : Int) (k : (Int × Int × Int × Int × Int × Int × Int × Int × Bool × Int × Int × Int × Int × Int × Int × Int × Int × Int × Int × Int) → Option ρ) : Option ρ :=
  Option.bind (g_astrolaberef13_Good x0 x1 x2 x3 x4 x5 x6 x7) fun (d : Bool) =>
    bif !d then k (0, 0, 0, 0, 0, 0, 0, 0, false, 1, x8, x9, x10, x11, x12, x13, x14, x15, x16, x17)
    else
      bif decide (x0 ≤ x9) then k (0, 0, 0, 0, 0, 0, 0, 0, false, 1, x8, x9, x10, x11, x12, x13, x14, x15, x16, x17)
      else
        bif decide (IntKind.wrap IntKind.i64 (x11 + x1) < x8) then
          k
            (0, 0, 0, 0, 0, 0, 0, 0, false, 0, x8, x0, x0, IntKind.wrap IntKind.i64 (x11 + x1), IntKind.wrap IntKind.i64 (x12 + x2), IntKind.wrap IntKind.i64 (x13 + x3),
              IntKind.wrap IntKind.i64 (x14 + x4), IntKind.wrap IntKind.i64 (x15 + x5), IntKind.wrap IntKind.i64 (x16 + x6), IntKind.wrap IntKind.i64 (x17 + x7))
        else
          k
            (x0, IntKind.wrap IntKind.i64 (x11 + x1), IntKind.wrap IntKind.i64 (x12 + x2), IntKind.wrap IntKind.i64 (x13 + x3), IntKind.wrap IntKind.i64 (x14 + x4), IntKind.wrap IntKind.i64 (x15 + x5),
              IntKind.wrap IntKind.i64 (x16 + x6), IntKind.wrap IntKind.i64 (x17 + x7), true, 0, x8, x0, 0, 0, 0, 0, 0, 0, 0, 0)
def f___astrolaberef13_Sampler__Put (x0 : Int) (x1 : Int) (x2 : Int) (x3 : Int) (x4 : Int) (x5 : Int) (x6 : Int) (x7 : Int) (x8 : Int) (x9 : Int) (x10 : Int) (x11 : Int) (x12 : Int) (x13 : Int) (x14 : Int) (x15 : Int) (x16 : Int) (x17 : Int) : Option (Int × Int × Int × Int × Int × Int × Int × Int × Bool × Int × Int × Int × Int × Int × Int × Int × Int × Int × Int × Int) := K___astrolaberef13_Sampler__Put f_astrolaberef13_Good  x0 x1 x2 x3 x4 x5 x6 x7 x8 x9 x10 x11 x12 x13 x14 x15 x16 x17 some
section
open Go.Ab.Rdr
def QA___astrolaberef13_Sampler__Put := ((pair (cons (ar (rc (cptr (nat 0) (ok' (nat 0)) (nat 10)))) (cons (ar (ra (cons (gc (cf (fi .i64 hole))) (cons (gc (cf (fi .i64 hole))) (cons (gc (cf (fi .i64 hole))) (cons (gc (cf (fi .i64 hole))) (cons (gc (cf (fi .i64 hole))) (cons (gc (cf (fi .i64 hole))) (cons (gc (cf (fi .i64 hole))) (cons (gc (cf (fi .i64 hole))) nil)))))))))) nil)) (cons (cons (gc (cf (fi .i64 hole))) (cons (gc (cf (fi .i64 hole))) (cons (gc (cf (fi .i64 hole))) (cons (gc (cf (fi .i64 hole))) (cons (gc (cf (fi .i64 hole))) (cons (gc (cf (fi .i64 hole))) (cons (gc (cf (fi .i64 hole))) (cons (gc (cf (fi .i64 hole))) (cons (gc (cf (fi .i64 hole))) (cons (gc (cf (fi .i64 hole))) nil)))))))))) nil)) : Rdr (List AV × List Blk) _)
end
def F___astrolaberef13_Sampler__Put (f : (Int) → (Int) → (Int) → (Int) → (Int) → (Int) → (Int) → (Int) → (Int) → (Int) → (Int) → (Int) → (Int) → (Int) → (Int) → (Int) → (Int) → (Int) → Option (Int × Int × Int × Int × Int × Int × Int × Int × Bool × Int × Int × Int × Int × Int × Int × Int × Int × Int × Int × Int)) : Sem1 := fun args h => match (QA___astrolaberef13_Sampler__Put).rd (args, h) with
  | some b => .opt (f b.1.2.1.1 b.1.2.1.2.1 b.1.2.1.2.2.1 b.1.2.1.2.2.2.1 b.1.2.1.2.2.2.2.1 b.1.2.1.2.2.2.2.2.1 b.1.2.1.2.2.2.2.2.2.1 b.1.2.1.2.2.2.2.2.2.2.1 b.2.1.1 b.2.1.2.1 b.2.1.2.2.1 b.2.1.2.2.2.1 b.2.1.2.2.2.2.1 b.2.1.2.2.2.2.2.1 b.2.1.2.2.2.2.2.2.1 b.2.1.2.2.2.2.2.2.2.1 b.2.1.2.2.2.2.2.2.2.2.1 b.2.1.2.2.2.2.2.2.2.2.2.1) fun (d : Int × Int × Int × Int × Int × Int × Int × Int × Bool × Int × Int × Int × Int × Int × Int × Int × Int × Int × Int × Int) => .leaf (Res.mk
    (AV.tup
      [RV.agg
          [Sg.c (CV.f (FV.i IntKind.i64 d.1)), Sg.c (CV.f (FV.i IntKind.i64 d.2.1)), Sg.c (CV.f (FV.i IntKind.i64 d.2.2.1)), Sg.c (CV.f (FV.i IntKind.i64 d.2.2.2.1)),
            Sg.c (CV.f (FV.i IntKind.i64 d.2.2.2.2.1)), Sg.c (CV.f (FV.i IntKind.i64 d.2.2.2.2.2.1)), Sg.c (CV.f (FV.i IntKind.i64 d.2.2.2.2.2.2.1)),
            Sg.c (CV.f (FV.i IntKind.i64 d.2.2.2.2.2.2.2.1))],
        RV.c (CV.f (FV.b d.2.2.2.2.2.2.2.2.1)), RV.c (CV.f (FV.i IntKind.i64 d.2.2.2.2.2.2.2.2.2.1))])
    [Ch.set
        [Sg.c (CV.f (FV.i IntKind.i64 d.2.2.2.2.2.2.2.2.2.2.1)), Sg.c (CV.f (FV.i IntKind.i64 d.2.2.2.2.2.2.2.2.2.2.2.1)),
          Sg.c (CV.f (FV.i IntKind.i64 d.2.2.2.2.2.2.2.2.2.2.2.2.1)), Sg.c (CV.f (FV.i IntKind.i64 d.2.2.2.2.2.2.2.2.2.2.2.2.2.1)),
          Sg.c (CV.f (FV.i IntKind.i64 d.2.2.2.2.2.2.2.2.2.2.2.2.2.2.1)),
          Sg.c (CV.f (FV.i IntKind.i64 d.2.2.2.2.2.2.2.2.2.2.2.2.2.2.2.1)),
          Sg.c (CV.f (FV.i IntKind.i64 d.2.2.2.2.2.2.2.2.2.2.2.2.2.2.2.2.1)),
          Sg.c (CV.f (FV.i IntKind.i64 d.2.2.2.2.2.2.2.2.2.2.2.2.2.2.2.2.2.1)),
          Sg.c (CV.f (FV.i IntKind.i64 d.2.2.2.2.2.2.2.2.2.2.2.2.2.2.2.2.2.2.1)),
          Sg.c (CV.f (FV.i IntKind.i64 d.2.2.2.2.2.2.2.2.2.2.2.2.2.2.2.2.2.2.2))]]
    [])
  | none => .fail
theorem d___astrolaberef13_Sampler__Put (g_astrolaberef13_Good : Int → Int → Int → Int → Int → Int → Int → Int → Option Bool)  (x0 : Int) (x1 : Int) (x2 : Int) (x3 : Int) (x4 : Int) (x5 : Int) (x6 : Int) (x7 : Int) (x8 : Int) (x9 : Int) (x10 : Int) (x11 : Int) (x12 : Int) (x13 : Int) (x14 : Int) (x15 : Int) (x16 : Int) (x17 : Int) : den Try.prog (envOf [(38, F_astrolaberef13_Good g_astrolaberef13_Good)]) ⟨[⟨7, [1, 2, 5, 6, 8, 9, 10, 11, 12, 13, 14, 15, 16, 17, 18, 19, 20, 21, 22, 23, 24, 25, 26, 27, 28, 29, 30, 31, 32, 33, 34, 35, 36, 37, 38, 39, 40, 41, 42, 43, 44, 45, 46, 47, 48, 49, 50, 51, 52, 53, 54, 55, 56, 57, 58, 59, 60, 61, 62, 63, 64, 65, 66, 67, 68, 69, 70, 71, 72, 73, 74, 75, 76, 77, 78, 79, 80, 81, 82, 83, 84, 85, 86, 87, 88, 89, 90, 91, 92, 93, 94, 95, 96, 97, 98, 99, 100, 101, 102, 103, 104], []⟩], [], [0], [], (some ⟨0, [0, 1, 2, 3, 7, 8, 9, 10, 11, 12, 13, 14, 15, 16, 17, 18, 19, 20, 21, 22, 23, 24, 25, 26, 27, 28, 29, 30, 31, 32, 33, 34, 35, 36, 37, 38, 39, 40, 41, 42, 43, 44, 45, 46, 47, 48, 49, 50, 51, 52, 53, 54, 55, 56, 57, 58, 59, 60, 61, 62, 63, 64, 65, 66, 67, 68, 69, 70, 71, 72, 73, 74, 75, 76, 77, 78, 79, 80, 81, 82, 83, 84, 85, 86, 87, 88, 89, 90, 91, 92, 93, 94, 95, 96, 97, 98, 99, 100, 101, 102, 103, 104], []⟩)⟩ 200 37 [.r (.c (.ptr 0 (.k 0) 10)), .r (.agg [.c (.f (.i .i64 x0)), .c (.f (.i .i64 x1)), .c (.f (.i .i64 x2)), .c (.f (.i .i64 x3)), .c (.f (.i .i64 x4)), .c (.f (.i .i64 x5)), .c (.f (.i .i64 x6)), .c (.f (.i .i64 x7))])] [[.c (.f (.i .i64 x8)), .c (.f (.i .i64 x9)), .c (.f (.i .i64 x10)), .c (.f (.i .i64 x11)), .c (.f (.i .i64 x12)), .c (.f (.i .i64 x13)), .c (.f (.i .i64 x14)), .c (.f (.i .i64 x15)), .c (.f (.i .i64 x16)), .c (.f (.i .i64 x17))]] =
    K___astrolaberef13_Sampler__Put g_astrolaberef13_Good  x0 x1 x2 x3 x4 x5 x6 x7 x8 x9 x10 x11 x12 x13 x14 x15 x16 x17 (fun (d : Int × Int × Int × Int × Int × Int × Int × Int × Bool × Int × Int × Int × Int × Int × Int × Int × Int × Int × Int × Int) => some (Res.mk
    (AV.tup
      [RV.agg
          [Sg.c (CV.f (FV.i IntKind.i64 d.1)), Sg.c (CV.f (FV.i IntKind.i64 d.2.1)), Sg.c (CV.f (FV.i IntKind.i64 d.2.2.1)), Sg.c (CV.f (FV.i IntKind.i64 d.2.2.2.1)),
            Sg.c (CV.f (FV.i IntKind.i64 d.2.2.2.2.1)), Sg.c (CV.f (FV.i IntKind.i64 d.2.2.2.2.2.1)), Sg.c (CV.f (FV.i IntKind.i64 d.2.2.2.2.2.2.1)),
            Sg.c (CV.f (FV.i IntKind.i64 d.2.2.2.2.2.2.2.1))],
        RV.c (CV.f (FV.b d.2.2.2.2.2.2.2.2.1)), RV.c (CV.f (FV.i IntKind.i64 d.2.2.2.2.2.2.2.2.2.1))])
    [Ch.set
        [Sg.c (CV.f (FV.i IntKind.i64 d.2.2.2.2.2.2.2.2.2.2.1)), Sg.c (CV.f (FV.i IntKind.i64 d.2.2.2.2.2.2.2.2.2.2.2.1)),
          Sg.c (CV.f (FV.i IntKind.i64 d.2.2.2.2.2.2.2.2.2.2.2.2.1)), Sg.c (CV.f (FV.i IntKind.i64 d.2.2.2.2.2.2.2.2.2.2.2.2.2.1)),
          Sg.c (CV.f (FV.i IntKind.i64 d.2.2.2.2.2.2.2.2.2.2.2.2.2.2.1)),
          Sg.c (CV.f (FV.i IntKind.i64 d.2.2.2.2.2.2.2.2.2.2.2.2.2.2.2.1)),
          Sg.c (CV.f (FV.i IntKind.i64 d.2.2.2.2.2.2.2.2.2.2.2.2.2.2.2.2.1)),
          Sg.c (CV.f (FV.i IntKind.i64 d.2.2.2.2.2.2.2.2.2.2.2.2.2.2.2.2.2.1)),
          Sg.c (CV.f (FV.i IntKind.i64 d.2.2.2.2.2.2.2.2.2.2.2.2.2.2.2.2.2.2.1)),
          Sg.c (CV.f (FV.i IntKind.i64 d.2.2.2.2.2.2.2.2.2.2.2.2.2.2.2.2.2.2.2))]]
    [])) := by kernel_rfl
theorem m___astrolaberef13_Sampler__Put {ρ σ : Type} (q : ρ → Option σ) (g_astrolaberef13_Good : Int → Int → Int → Int → Int → Int → Int → Int → Option Bool)   (x0 : Int) (x1 : Int) (x2 : Int) (x3 : Int) (x4 : Int) (x5 : Int) (x6 : Int) (x7 : Int) (x8 : Int) (x9 : Int) (x10 : Int) (x11 : Int) (x12 : Int) (x13 : Int) (x14 : Int) (x15 : Int) (x16 : Int) (x17 : Int) (k : (Int × Int × Int × Int × Int × Int × Int × Int × Bool × Int × Int × Int × Int × Int × Int × Int × Int × Int × Int × Int) → Option ρ) : (K___astrolaberef13_Sampler__Put g_astrolaberef13_Good  x0 x1 x2 x3 x4 x5 x6 x7 x8 x9 x10 x11 x12 x13 x14 x15 x16 x17 k).bind q = K___astrolaberef13_Sampler__Put g_astrolaberef13_Good  x0 x1 x2 x3 x4 x5 x6 x7 x8 x9 x10 x11 x12 x13 x14 x15 x16 x17 (fun d => (k d).bind q) := by
  simp only [K___astrolaberef13_Sampler__Put, bnd_cond, bnd_bind, bnd_none, bnd_sum]
theorem qa___astrolaberef13_Sampler__Put : ∀ b, (QA___astrolaberef13_Sampler__Put).em b = ([.r (.c (.ptr 0 (.k 0) 10)), .r (.agg [.c (.f (.i .i64 b.1.2.1.1)), .c (.f (.i .i64 b.1.2.1.2.1)), .c (.f (.i .i64 b.1.2.1.2.2.1)), .c (.f (.i .i64 b.1.2.1.2.2.2.1)), .c (.f (.i .i64 b.1.2.1.2.2.2.2.1)), .c (.f (.i .i64 b.1.2.1.2.2.2.2.2.1)), .c (.f (.i .i64 b.1.2.1.2.2.2.2.2.2.1)), .c (.f (.i .i64 b.1.2.1.2.2.2.2.2.2.2.1))])], [[.c (.f (.i .i64 b.2.1.1)), .c (.f (.i .i64 b.2.1.2.1)), .c (.f (.i .i64 b.2.1.2.2.1)), .c (.f (.i .i64 b.2.1.2.2.2.1)), .c (.f (.i .i64 b.2.1.2.2.2.2.1)), .c (.f (.i .i64 b.2.1.2.2.2.2.2.1)), .c (.f (.i .i64 b.2.1.2.2.2.2.2.2.1)), .c (.f (.i .i64 b.2.1.2.2.2.2.2.2.2.1)), .c (.f (.i .i64 b.2.1.2.2.2.2.2.2.2.2.1)), .c (.f (.i .i64 b.2.1.2.2.2.2.2.2.2.2.2.1))]]) := fun b => by kernel_rfl
theorem e___astrolaberef13_Sampler__Put {f : (Int) → (Int) → (Int) → (Int) → (Int) → (Int) → (Int) → (Int) → (Int) → (Int) → (Int) → (Int) → (Int) → (Int) → (Int) → (Int) → (Int) → (Int) → Option (Int × Int × Int × Int × Int × Int × Int × Int × Bool × Int × Int × Int × Int × Int × Int × Int × Int × Int × Int × Int)} {args : List AV} {h : List Blk} {r : Res} (hr : (F___astrolaberef13_Sampler__Put f args h).eval = some r) : ∃ x0 x1 x2 x3 x4 x5 x6 x7 x8 x9 x10 x11 x12 x13 x14 x15 x16 x17, args = [.r (.c (.ptr 0 (.k 0) 10)), .r (.agg [.c (.f (.i .i64 x0)), .c (.f (.i .i64 x1)), .c (.f (.i .i64 x2)), .c (.f (.i .i64 x3)), .c (.f (.i .i64 x4)), .c (.f (.i .i64 x5)), .c (.f (.i .i64 x6)), .c (.f (.i .i64 x7))])] ∧ h = [[.c (.f (.i .i64 x8)), .c (.f (.i .i64 x9)), .c (.f (.i .i64 x10)), .c (.f (.i .i64 x11)), .c (.f (.i .i64 x12)), .c (.f (.i .i64 x13)), .c (.f (.i .i64 x14)), .c (.f (.i .i64 x15)), .c (.f (.i .i64 x16)), .c (.f (.i .i64 x17))]] ∧ (f x0 x1 x2 x3 x4 x5 x6 x7 x8 x9 x10 x11 x12 x13 x14 x15 x16 x17).bind (fun (d : Int × Int × Int × Int × Int × Int × Int × Int × Bool × Int × Int × Int × Int × Int × Int × Int × Int × Int × Int × Int) => some (Res.mk
    (AV.tup
      [RV.agg
          [Sg.c (CV.f (FV.i IntKind.i64 d.1)), Sg.c (CV.f (FV.i IntKind.i64 d.2.1)), Sg.c (CV.f (FV.i IntKind.i64 d.2.2.1)), Sg.c (CV.f (FV.i IntKind.i64 d.2.2.2.1)),
            Sg.c (CV.f (FV.i IntKind.i64 d.2.2.2.2.1)), Sg.c (CV.f (FV.i IntKind.i64 d.2.2.2.2.2.1)), Sg.c (CV.f (FV.i IntKind.i64 d.2.2.2.2.2.2.1)),
            Sg.c (CV.f (FV.i IntKind.i64 d.2.2.2.2.2.2.2.1))],
        RV.c (CV.f (FV.b d.2.2.2.2.2.2.2.2.1)), RV.c (CV.f (FV.i IntKind.i64 d.2.2.2.2.2.2.2.2.2.1))])
    [Ch.set
        [Sg.c (CV.f (FV.i IntKind.i64 d.2.2.2.2.2.2.2.2.2.2.1)), Sg.c (CV.f (FV.i IntKind.i64 d.2.2.2.2.2.2.2.2.2.2.2.1)),
          Sg.c (CV.f (FV.i IntKind.i64 d.2.2.2.2.2.2.2.2.2.2.2.2.1)), Sg.c (CV.f (FV.i IntKind.i64 d.2.2.2.2.2.2.2.2.2.2.2.2.2.1)),
          Sg.c (CV.f (FV.i IntKind.i64 d.2.2.2.2.2.2.2.2.2.2.2.2.2.2.1)),
          Sg.c (CV.f (FV.i IntKind.i64 d.2.2.2.2.2.2.2.2.2.2.2.2.2.2.2.1)),
          Sg.c (CV.f (FV.i IntKind.i64 d.2.2.2.2.2.2.2.2.2.2.2.2.2.2.2.2.1)),
          Sg.c (CV.f (FV.i IntKind.i64 d.2.2.2.2.2.2.2.2.2.2.2.2.2.2.2.2.2.1)),
          Sg.c (CV.f (FV.i IntKind.i64 d.2.2.2.2.2.2.2.2.2.2.2.2.2.2.2.2.2.2.1)),
          Sg.c (CV.f (FV.i IntKind.i64 d.2.2.2.2.2.2.2.2.2.2.2.2.2.2.2.2.2.2.2))]]
    [])) = some r := by
  unfold F___astrolaberef13_Sampler__Put at hr
  split at hr
  · rename_i b hb
    have e := ((QA___astrolaberef13_Sampler__Put).ok _ _ hb).trans (qa___astrolaberef13_Sampler__Put b)
    rw [opt_eval2] at hr
    exact ⟨b.1.2.1.1, b.1.2.1.2.1, b.1.2.1.2.2.1, b.1.2.1.2.2.2.1, b.1.2.1.2.2.2.2.1, b.1.2.1.2.2.2.2.2.1, b.1.2.1.2.2.2.2.2.2.1, b.1.2.1.2.2.2.2.2.2.2.1, b.2.1.1, b.2.1.2.1, b.2.1.2.2.1, b.2.1.2.2.2.1, b.2.1.2.2.2.2.1, b.2.1.2.2.2.2.2.1, b.2.1.2.2.2.2.2.2.1, b.2.1.2.2.2.2.2.2.2.1, b.2.1.2.2.2.2.2.2.2.2.1, b.2.1.2.2.2.2.2.2.2.2.2.1, (Prod.mk.inj e).1, (Prod.mk.inj e).2, hr⟩
  · cases hr
theorem n___astrolaberef13_Sampler__Put {σ : Type} (q : (Int × Int × Int × Int × Int × Int × Int × Int × Bool × Int × Int × Int × Int × Int × Int × Int × Int × Int × Int × Int) → Option σ) (x0 : Int) (x1 : Int) (x2 : Int) (x3 : Int) (x4 : Int) (x5 : Int) (x6 : Int) (x7 : Int) (x8 : Int) (x9 : Int) (x10 : Int) (x11 : Int) (x12 : Int) (x13 : Int) (x14 : Int) (x15 : Int) (x16 : Int) (x17 : Int) : (f___astrolaberef13_Sampler__Put x0 x1 x2 x3 x4 x5 x6 x7 x8 x9 x10 x11 x12 x13 x14 x15 x16 x17).bind q = K___astrolaberef13_Sampler__Put f_astrolaberef13_Good  x0 x1 x2 x3 x4 x5 x6 x7 x8 x9 x10 x11 x12 x13 x14 x15 x16 x17 q := by
  unfold f___astrolaberef13_Sampler__Put
  exact m___astrolaberef13_Sampler__Put q f_astrolaberef13_Good   x0 x1 x2 x3 x4 x5 x6 x7 x8 x9 x10 x11 x12 x13 x14 x15 x16 x17 some
theorem s___astrolaberef13_Sampler__Put : Sound Try.prog 37 (F___astrolaberef13_Sampler__Put f___astrolaberef13_Sampler__Put) :=
  (inl_sums (l := [(38, F_astrolaberef13_Good f_astrolaberef13_Good)]) (.cons s_astrolaberef13_Good (.nil _)) mixed (hs := ⟨[⟨7, [1, 2, 5, 6, 8, 9, 10, 11, 12, 13, 14, 15, 16, 17, 18, 19, 20, 21, 22, 23, 24, 25, 26, 27, 28, 29, 30, 31, 32, 33, 34, 35, 36, 37, 38, 39, 40, 41, 42, 43, 44, 45, 46, 47, 48, 49, 50, 51, 52, 53, 54, 55, 56, 57, 58, 59, 60, 61, 62, 63, 64, 65, 66, 67, 68, 69, 70, 71, 72, 73, 74, 75, 76, 77, 78, 79, 80, 81, 82, 83, 84, 85, 86, 87, 88, 89, 90, 91, 92, 93, 94, 95, 96, 97, 98, 99, 100, 101, 102, 103, 104], []⟩], [], [0], [], (some ⟨0, [0, 1, 2, 3, 7, 8, 9, 10, 11, 12, 13, 14, 15, 16, 17, 18, 19, 20, 21, 22, 23, 24, 25, 26, 27, 28, 29, 30, 31, 32, 33, 34, 35, 36, 37, 38, 39, 40, 41, 42, 43, 44, 45, 46, 47, 48, 49, 50, 51, 52, 53, 54, 55, 56, 57, 58, 59, 60, 61, 62, 63, 64, 65, 66, 67, 68, 69, 70, 71, 72, 73, 74, 75, 76, 77, 78, 79, 80, 81, 82, 83, 84, 85, 86, 87, 88, 89, 90, 91, 92, 93, 94, 95, 96, 97, 98, 99, 100, 101, 102, 103, 104], []⟩)⟩) (lf := 200) (Sums.by (l := [loopIn Try.prog 37 7]) (lj := []) (by kernel_rfl) ⟨SumOK.no (by kernel_rfl), trivial⟩ (by kernel_rfl) trivial) (by kernel_rfl)).by (F := F___astrolaberef13_Sampler__Put f___astrolaberef13_Sampler__Put) fun args b r hr => by
  obtain ⟨x0, x1, x2, x3, x4, x5, x6, x7, x8, x9, x10, x11, x12, x13, x14, x15, x16, x17, rfl, rfl, hr1⟩ := e___astrolaberef13_Sampler__Put hr
  exact inl_eval ((d___astrolaberef13_Sampler__Put f_astrolaberef13_Good  x0 x1 x2 x3 x4 x5 x6 x7 x8 x9 x10 x11 x12 x13 x14 x15 x16 x17).trans ((n___astrolaberef13_Sampler__Put (fun (d : Int × Int × Int × Int × Int × Int × Int × Int × Bool × Int × Int × Int × Int × Int × Int × Int × Int × Int × Int × Int) => some (Res.mk
    (AV.tup
      [RV.agg
          [Sg.c (CV.f (FV.i IntKind.i64 d.1)), Sg.c (CV.f (FV.i IntKind.i64 d.2.1)), Sg.c (CV.f (FV.i IntKind.i64 d.2.2.1)), Sg.c (CV.f (FV.i IntKind.i64 d.2.2.2.1)),
            Sg.c (CV.f (FV.i IntKind.i64 d.2.2.2.2.1)), Sg.c (CV.f (FV.i IntKind.i64 d.2.2.2.2.2.1)), Sg.c (CV.f (FV.i IntKind.i64 d.2.2.2.2.2.2.1)),
            Sg.c (CV.f (FV.i IntKind.i64 d.2.2.2.2.2.2.2.1))],
        RV.c (CV.f (FV.b d.2.2.2.2.2.2.2.2.1)), RV.c (CV.f (FV.i IntKind.i64 d.2.2.2.2.2.2.2.2.2.1))])
    [Ch.set
        [Sg.c (CV.f (FV.i IntKind.i64 d.2.2.2.2.2.2.2.2.2.2.1)), Sg.c (CV.f (FV.i IntKind.i64 d.2.2.2.2.2.2.2.2.2.2.2.1)),
          Sg.c (CV.f (FV.i IntKind.i64 d.2.2.2.2.2.2.2.2.2.2.2.2.1)), Sg.c (CV.f (FV.i IntKind.i64 d.2.2.2.2.2.2.2.2.2.2.2.2.2.1)),
          Sg.c (CV.f (FV.i IntKind.i64 d.2.2.2.2.2.2.2.2.2.2.2.2.2.2.1)),
          Sg.c (CV.f (FV.i IntKind.i64 d.2.2.2.2.2.2.2.2.2.2.2.2.2.2.2.1)),
          Sg.c (CV.f (FV.i IntKind.i64 d.2.2.2.2.2.2.2.2.2.2.2.2.2.2.2.2.1)),
          Sg.c (CV.f (FV.i IntKind.i64 d.2.2.2.2.2.2.2.2.2.2.2.2.2.2.2.2.2.1)),
          Sg.c (CV.f (FV.i IntKind.i64 d.2.2.2.2.2.2.2.2.2.2.2.2.2.2.2.2.2.2.1)),
          Sg.c (CV.f (FV.i IntKind.i64 d.2.2.2.2.2.2.2.2.2.2.2.2.2.2.2.2.2.2.2))]]
    [])) x0 x1 x2 x3 x4 x5 x6 x7 x8 x9 x10 x11 x12 x13 x14 x15 x16 x17).symm.trans hr1))

def S_astrolabelaw14_DownsPlays_0 {ρ : Type} (g_astrolabelaw14_awake : Option Bool) (g_downs_New : Int → Option (Unit ⊕ Int)) (g_astrolabelaw14_own : Int → Option Int) (g___downs_Sampler__Put : Int →
  Int →
    Int →
      Int →
        Int →
          Int →
            Int →
              Int →
                Int →
                  Int →
                    Int →
                      Int →
                        Int →
                          Int → Int → Int → Int → Bool → Bool → Option (Int × Int × Int × Int × Int × Int × Int × Int × Bool × Int × Int × Int × Int × Int × Int × Int × Int × Int × Int × Bool × Bool)) (g___astrolaberef13_Sampler__Put : Int →
  Int →
    Int →
      Int →
        Int →
          Int →
            Int →
              Int →
                Int →
                  Int → Int → Int → Int → Int → Int → Int → Int → Int → Option (Int × Int × Int × Int × Int × Int × Int × Int × Bool × Int × Int × Int × Int × Int × Int × Int × Int × Int × Int × Int)) (g___downs_Sampler__Pending : Int → Int → Int → Int → Int → Int → Int → Int → Int → Bool → Option Int) (g_downs_Good : Int → Int → Int → Int → Int → Int → Int → Int → Option Bool) (g_astrolaberef13_Good : Int → Int → Int → Int → Int → Int → Int → Int → Option Bool)  (x0 : Nat) (x1 : Bool) (x2 : Int) (x3 : Int) (x4 : Nat) (x5 : Nat → Int) (x6 : Nat → Int) (x7 : Nat → Int) (x8 : Nat → Int) (x9 : Nat → Int) (x10 : Nat → Int) (x11 : Nat → Int) (x12 : Nat → Int) (x13 : Int) (x14 : Int) (x15 : Int) (x16 : Int) (x17 : Int) (x18 : Int) (x19 : Int) (x20 : Int) (x21 : Int) (x22 : Bool) (x23 : Int) (x24 : Int) (x25 : Int) (x26 : Int) (x27 : Int) (x28 : Int) (x29 : Int) (x30 : Int) (x31 : Int) (x32 : Int) (x33 : Bool) (c : (Nat ×
  Bool ×
    Int ×
      Int ×
        Nat ×
          (Nat → Int) ×
            (Nat → Int) ×
              (Nat → Int) ×
                (Nat → Int) ×
                  (Nat → Int) × (Nat → Int) × (Nat → Int) × (Nat → Int) × Int × Int × Int × Int × Int × Int × Int × Int × Int × Bool × Int × Int × Int × Int × Int × Int × Int × Int × Int × Int × Bool) → Option ρ) (x : (Nat × (Nat → Int) × (Nat → Int) × (Nat → Int) × (Nat → Int) × (Nat → Int) × (Nat → Int) × (Nat → Int) × (Nat → Int) ⊕
  Nat ×
    Bool ×
      Int ×
        Int ×
          Int ×
            Bool ×
              Nat ×
                (Nat → Int) ×
                  (Nat → Int) ×
                    (Nat → Int) ×
                      (Nat → Int) ×
                        (Nat → Int) ×
                          (Nat → Int) × (Nat → Int) × (Nat → Int) × Int × Int × Int × Int × Int × Int × Int × Int × Int × Bool × Int × Int × Int × Int × Int × Int × Int × Int × Int × Int × Bool) → Option ρ) : Option ρ :=
  bif decide (x2 < Int.ofNat x0) then
    bif inR x2 x0 then
      Option.bind
        (g___downs_Sampler__Put (x5 (Int.toNat x2)) (x6 (Int.toNat x2)) (x7 (Int.toNat x2)) (x8 (Int.toNat x2)) (x9 (Int.toNat x2)) (x10 (Int.toNat x2)) (x11 (Int.toNat x2)) (x12 (Int.toNat x2)) x13 x14
          x15 x16 x17 x18 x19 x20 x21 x22 x33)
        fun (d : Int × Int × Int × Int × Int × Int × Int × Int × Bool × Int × Int × Int × Int × Int × Int × Int × Int × Int × Int × Bool × Bool) =>
        bif inR x2 x0 then
          Option.bind
            (g___astrolaberef13_Sampler__Put (x5 (Int.toNat x2)) (x6 (Int.toNat x2)) (x7 (Int.toNat x2)) (x8 (Int.toNat x2)) (x9 (Int.toNat x2)) (x10 (Int.toNat x2)) (x11 (Int.toNat x2))
              (x12 (Int.toNat x2)) x23 x24 x25 x26 x27 x28 x29 x30 x31 x32)
            fun (d_1 : Int × Int × Int × Int × Int × Int × Int × Int × Bool × Int × Int × Int × Int × Int × Int × Int × Int × Int × Int × Int) =>
            bif
                !(d.1 == d_1.1 &&
                    (d.2.1 == d_1.2.1 &&
                      (d.2.2.1 == d_1.2.2.1 && (d.2.2.2.1 == d_1.2.2.2.1 && (d.2.2.2.2.1 == d_1.2.2.2.2.1 && true)) &&
                        (d.2.2.2.2.2.1 == d_1.2.2.2.2.2.1 &&
                            (d.2.2.2.2.2.2.1 == d_1.2.2.2.2.2.2.1 && (d.2.2.2.2.2.2.2.1 == d_1.2.2.2.2.2.2.2.1 && true)) &&
                          true)))) then
              x (Sum.inl (x4, x5, x6, x7, x8, x9, x10, x11, x12))
            else
              bif !d.2.2.2.2.2.2.2.2.1 == d_1.2.2.2.2.2.2.2.2.1 then x (Sum.inl (x4, x5, x6, x7, x8, x9, x10, x11, x12))
              else
                bif d.2.2.2.2.2.2.2.2.2.1 != d_1.2.2.2.2.2.2.2.2.2.1 then x (Sum.inl (x4, x5, x6, x7, x8, x9, x10, x11, x12))
                else
                  Option.bind
                    (g___downs_Sampler__Pending d.2.2.2.2.2.2.2.2.2.2.1 d.2.2.2.2.2.2.2.2.2.2.2.1 d.2.2.2.2.2.2.2.2.2.2.2.2.1
                      d.2.2.2.2.2.2.2.2.2.2.2.2.2.1 d.2.2.2.2.2.2.2.2.2.2.2.2.2.2.1
                      d.2.2.2.2.2.2.2.2.2.2.2.2.2.2.2.1 d.2.2.2.2.2.2.2.2.2.2.2.2.2.2.2.2.1
                      d.2.2.2.2.2.2.2.2.2.2.2.2.2.2.2.2.2.1 d.2.2.2.2.2.2.2.2.2.2.2.2.2.2.2.2.2.2.1
                      d.2.2.2.2.2.2.2.2.2.2.2.2.2.2.2.2.2.2.2.1)
                    fun (d_2 : Int) =>
                    bif d_2 != d_1.2.2.2.2.2.2.2.2.2.2.2.2.2.1 then x (Sum.inl (x4, x5, x6, x7, x8, x9, x10, x11, x12))
                    else
                      bif inR x2 x0 then
                        Option.bind
                          (g_downs_Good (x5 (Int.toNat x2)) (x6 (Int.toNat x2)) (x7 (Int.toNat x2)) (x8 (Int.toNat x2)) (x9 (Int.toNat x2)) (x10 (Int.toNat x2)) (x11 (Int.toNat x2))
                            (x12 (Int.toNat x2)))
                          fun (d_3 : Bool) =>
                          bif inR x2 x0 then
                            Option.bind
                              (g_astrolaberef13_Good (x5 (Int.toNat x2)) (x6 (Int.toNat x2)) (x7 (Int.toNat x2)) (x8 (Int.toNat x2)) (x9 (Int.toNat x2)) (x10 (Int.toNat x2)) (x11 (Int.toNat x2))
                                (x12 (Int.toNat x2)))
                              fun (d_4 : Bool) =>
                              bif !d_3 == d_4 then x (Sum.inl (x4, x5, x6, x7, x8, x9, x10, x11, x12))
                              else
                                c
                                  (x0, x1, IntKind.wrap IntKind.i64 (x2 + 1), x3, x4, x5, x6, x7, x8, x9, x10, x11, x12, d.2.2.2.2.2.2.2.2.2.2.1,
                                    d.2.2.2.2.2.2.2.2.2.2.2.1, d.2.2.2.2.2.2.2.2.2.2.2.2.1, d.2.2.2.2.2.2.2.2.2.2.2.2.2.1,
                                    d.2.2.2.2.2.2.2.2.2.2.2.2.2.2.1, d.2.2.2.2.2.2.2.2.2.2.2.2.2.2.2.1,
                                    d.2.2.2.2.2.2.2.2.2.2.2.2.2.2.2.2.1, d.2.2.2.2.2.2.2.2.2.2.2.2.2.2.2.2.2.1,
                                    d.2.2.2.2.2.2.2.2.2.2.2.2.2.2.2.2.2.2.1, d.2.2.2.2.2.2.2.2.2.2.2.2.2.2.2.2.2.2.2.1,
                                    d_1.2.2.2.2.2.2.2.2.2.2.1, d_1.2.2.2.2.2.2.2.2.2.2.2.1, d_1.2.2.2.2.2.2.2.2.2.2.2.2.1,
                                    d_1.2.2.2.2.2.2.2.2.2.2.2.2.2.1, d_1.2.2.2.2.2.2.2.2.2.2.2.2.2.2.1,
                                    d_1.2.2.2.2.2.2.2.2.2.2.2.2.2.2.2.1, d_1.2.2.2.2.2.2.2.2.2.2.2.2.2.2.2.2.1,
                                    d_1.2.2.2.2.2.2.2.2.2.2.2.2.2.2.2.2.2.1, d_1.2.2.2.2.2.2.2.2.2.2.2.2.2.2.2.2.2.2.1,
                                    d_1.2.2.2.2.2.2.2.2.2.2.2.2.2.2.2.2.2.2.2, d.2.2.2.2.2.2.2.2.2.2.2.2.2.2.2.2.2.2.2.2)
                          else none
                      else none
        else none
    else none
  else
    x
      (Sum.inr
        (x0, x1, x2, x3, Int.ofNat x0, decide (x2 < Int.ofNat x0), x4, x5, x6, x7, x8, x9, x10, x11, x12, x13, x14, x15, x16, x17, x18, x19, x20, x21, x22, x23, x24, x25, x26, x27, x28, x29, x30, x31,
          x32, x33))
section
open Go.Ab.Rdr
def Q_astrolabelaw14_DownsPlays_0 := (st (cons aund (cons (ar (rc (csl (nat 0) (ok' (nat 0)) (szs hole) (nat 8) hole))) (cons aund (cons (atup nil) (cons aund (cons (ar (rc (cptr (nat 1) (ok' (nat 0)) (nat 10)))) (cons aund (cons (ar (rc (cptr (nat 2) (ok' (nat 0)) (nat 10)))) (cons (ar (rc (cptr (nat 3) (ok' (nat 0)) (nat 1)))) (cons (ar (rc (cf (fi .i64 hole)))) (cons aund (cons aund (cons aund (cons aund (cons aund (cons aund (cons aund (cons aund (cons aund (cons aund (cons aund (cons aund (cons aund (cons (ar (rc (cf (fi .i64 hole)))) (cons aund (cons aund (cons aund (cons aund (cons aund (cons aund (cons aund (cons aund (cons aund (cons aund (cons aund (cons aund (cons aund (cons aund (cons aund (cons aund (cons aund (cons aund (cons aund (cons aund (cons aund (cons aund (cons aund (cons aund (cons aund (cons aund (cons aund (cons aund (cons aund (cons aund (cons aund (cons aund (cons aund (cons aund (cons aund (cons aund (cons aund (cons aund (cons aund (cons aund (cons aund (cons aund (cons aund (cons aund (cons aund (cons aund (cons aund (cons aund (cons aund (cons aund (cons aund (cons aund (cons aund (cons aund (cons aund (cons aund (cons aund (cons aund (cons aund (cons aund (cons aund (cons aund (cons aund (cons aund (cons aund (cons aund (cons aund (cons aund (cons aund (cons aund (cons aund (cons aund (cons aund (cons aund (cons aund (cons aund (cons aund (cons aund (cons aund (cons aund (cons aund (cons aund (cons aund (cons aund (cons aund (cons aund (cons aund (cons aund (cons aund (cons aund (cons aund (cons aund nil)))))))))))))))))))))))))))))))))))))))))))))))))))))))))))))))))))))))))))))))))))))))))))))))))))))))))))))))))))) (cons (some' (cons (ga (szs hole) (cons (ki .i64 hole) (cons (ki .i64 hole) (cons (ki .i64 hole) (cons (ki .i64 hole) (cons (ki .i64 hole) (cons (ki .i64 hole) (cons (ki .i64 hole) (cons (ki .i64 hole) nil))))))))) nil)) (cons (some' (cons (gc (cf (fi .i64 hole))) (cons (gc (cf (fi .i64 hole))) (cons (gc (cf (fi .i64 hole))) (cons (gc (cf (fi .i64 hole))) (cons (gc (cf (fi .i64 hole))) (cons (gc (cf (fi .i64 hole))) (cons (gc (cf (fi .i64 hole))) (cons (gc (cf (fi .i64 hole))) (cons (gc (cf (fi .i64 hole))) (cons (gc (cf (fb hole))) nil))))))))))) (cons (some' (cons (gc (cf (fi .i64 hole))) (cons (gc (cf (fi .i64 hole))) (cons (gc (cf (fi .i64 hole))) (cons (gc (cf (fi .i64 hole))) (cons (gc (cf (fi .i64 hole))) (cons (gc (cf (fi .i64 hole))) (cons (gc (cf (fi .i64 hole))) (cons (gc (cf (fi .i64 hole))) (cons (gc (cf (fi .i64 hole))) (cons (gc (cf (fi .i64 hole))) nil))))))))))) (cons (some' (cons (gc (cf (fb hole))) nil)) nil)))) nil)
end
theorem q_astrolabelaw14_DownsPlays_0 : ∀ b, (Q_astrolabelaw14_DownsPlays_0).em b = St.mk
    [AV.und, AV.r (RV.c (CV.sl 0 (Off.k 0) (Sz.s b.1.2.1.2.2.1) 8 b.1.2.1.2.2.2.2)), AV.und, AV.tup [], AV.und, AV.r (RV.c (CV.ptr 1 (Off.k 0) 10)), AV.und, AV.r (RV.c (CV.ptr 2 (Off.k 0) 10)),
      AV.r (RV.c (CV.ptr 3 (Off.k 0) 1)), AV.r (RV.c (CV.f (FV.i IntKind.i64 b.1.2.2.2.2.2.2.2.2.2.1))), AV.und, AV.und, AV.und, AV.und, AV.und, AV.und, AV.und, AV.und, AV.und, AV.und, AV.und, AV.und, AV.und,
      AV.r (RV.c (CV.f (FV.i IntKind.i64 b.1.2.2.2.2.2.2.2.2.2.2.2.2.2.2.2.2.2.2.2.2.2.2.2.1))), AV.und, AV.und, AV.und, AV.und, AV.und, AV.und, AV.und, AV.und, AV.und, AV.und, AV.und, AV.und, AV.und, AV.und, AV.und, AV.und, AV.und, AV.und, AV.und,
      AV.und, AV.und, AV.und, AV.und, AV.und, AV.und, AV.und, AV.und, AV.und, AV.und, AV.und, AV.und, AV.und, AV.und, AV.und, AV.und, AV.und, AV.und, AV.und, AV.und, AV.und, AV.und, AV.und, AV.und,
      AV.und, AV.und, AV.und, AV.und, AV.und, AV.und, AV.und, AV.und, AV.und, AV.und, AV.und, AV.und, AV.und, AV.und, AV.und, AV.und, AV.und, AV.und, AV.und, AV.und, AV.und, AV.und, AV.und, AV.und,
      AV.und, AV.und, AV.und, AV.und, AV.und, AV.und, AV.und, AV.und, AV.und, AV.und, AV.und, AV.und, AV.und, AV.und, AV.und, AV.und, AV.und, AV.und, AV.und, AV.und, AV.und, AV.und, AV.und, AV.und,
      AV.und]
    [some
        [Sg.a (Sz.s b.2.1.1.1.1)
            [Col.i IntKind.i64 b.2.1.1.1.2.1, Col.i IntKind.i64 b.2.1.1.1.2.2.1, Col.i IntKind.i64 b.2.1.1.1.2.2.2.1, Col.i IntKind.i64 b.2.1.1.1.2.2.2.2.1, Col.i IntKind.i64 b.2.1.1.1.2.2.2.2.2.1, Col.i IntKind.i64 b.2.1.1.1.2.2.2.2.2.2.1, Col.i IntKind.i64 b.2.1.1.1.2.2.2.2.2.2.2.1, Col.i IntKind.i64 b.2.1.1.1.2.2.2.2.2.2.2.2.1]],
      some
        [Sg.c (CV.f (FV.i IntKind.i64 b.2.1.2.1.1)), Sg.c (CV.f (FV.i IntKind.i64 b.2.1.2.1.2.1)), Sg.c (CV.f (FV.i IntKind.i64 b.2.1.2.1.2.2.1)), Sg.c (CV.f (FV.i IntKind.i64 b.2.1.2.1.2.2.2.1)), Sg.c (CV.f (FV.i IntKind.i64 b.2.1.2.1.2.2.2.2.1)),
          Sg.c (CV.f (FV.i IntKind.i64 b.2.1.2.1.2.2.2.2.2.1)), Sg.c (CV.f (FV.i IntKind.i64 b.2.1.2.1.2.2.2.2.2.2.1)), Sg.c (CV.f (FV.i IntKind.i64 b.2.1.2.1.2.2.2.2.2.2.2.1)), Sg.c (CV.f (FV.i IntKind.i64 b.2.1.2.1.2.2.2.2.2.2.2.2.1)), Sg.c (CV.f (FV.b b.2.1.2.1.2.2.2.2.2.2.2.2.2.1))],
      some
        [Sg.c (CV.f (FV.i IntKind.i64 b.2.1.2.2.1.1)), Sg.c (CV.f (FV.i IntKind.i64 b.2.1.2.2.1.2.1)), Sg.c (CV.f (FV.i IntKind.i64 b.2.1.2.2.1.2.2.1)), Sg.c (CV.f (FV.i IntKind.i64 b.2.1.2.2.1.2.2.2.1)), Sg.c (CV.f (FV.i IntKind.i64 b.2.1.2.2.1.2.2.2.2.1)),
          Sg.c (CV.f (FV.i IntKind.i64 b.2.1.2.2.1.2.2.2.2.2.1)), Sg.c (CV.f (FV.i IntKind.i64 b.2.1.2.2.1.2.2.2.2.2.2.1)), Sg.c (CV.f (FV.i IntKind.i64 b.2.1.2.2.1.2.2.2.2.2.2.2.1)), Sg.c (CV.f (FV.i IntKind.i64 b.2.1.2.2.1.2.2.2.2.2.2.2.2.1)), Sg.c (CV.f (FV.i IntKind.i64 b.2.1.2.2.1.2.2.2.2.2.2.2.2.2.1))],
      some [Sg.c (CV.f (FV.b b.2.1.2.2.2.1.1))]]
    [] := fun b => by kernel_rfl
def R_astrolabelaw14_DownsPlays_0 (l : ∀ {ρ : Type}, (Nat ×
  Bool ×
    Int ×
      Int ×
        Nat ×
          (Nat → Int) ×
            (Nat → Int) ×
              (Nat → Int) ×
                (Nat → Int) ×
                  (Nat → Int) × (Nat → Int) × (Nat → Int) × (Nat → Int) × Int × Int × Int × Int × Int × Int × Int × Int × Int × Bool × Int × Int × Int × Int × Int × Int × Int × Int × Int × Int × Bool) → ((Nat × (Nat → Int) × (Nat → Int) × (Nat → Int) × (Nat → Int) × (Nat → Int) × (Nat → Int) × (Nat → Int) × (Nat → Int) ⊕
  Nat ×
    Bool ×
      Int ×
        Int ×
          Int ×
            Bool ×
              Nat ×
                (Nat → Int) ×
                  (Nat → Int) ×
                    (Nat → Int) ×
                      (Nat → Int) ×
                        (Nat → Int) ×
                          (Nat → Int) × (Nat → Int) × (Nat → Int) × Int × Int × Int × Int × Int × Int × Int × Int × Int × Bool × Int × Int × Int × Int × Int × Int × Int × Int × Int × Int × Bool) → Option ρ) → Option ρ) {ρ : Type} (s : St) (K : AX → St → Option ρ) : Option ρ := ((Q_astrolabelaw14_DownsPlays_0).rd s).bind fun b => l (b.1.2.1.2.2.1, b.1.2.1.2.2.2.2, b.1.2.2.2.2.2.2.2.2.2.1, b.1.2.2.2.2.2.2.2.2.2.2.2.2.2.2.2.2.2.2.2.2.2.2.2.1, b.2.1.1.1.1, b.2.1.1.1.2.1, b.2.1.1.1.2.2.1, b.2.1.1.1.2.2.2.1, b.2.1.1.1.2.2.2.2.1, b.2.1.1.1.2.2.2.2.2.1, b.2.1.1.1.2.2.2.2.2.2.1, b.2.1.1.1.2.2.2.2.2.2.2.1, b.2.1.1.1.2.2.2.2.2.2.2.2.1, b.2.1.2.1.1, b.2.1.2.1.2.1, b.2.1.2.1.2.2.1, b.2.1.2.1.2.2.2.1, b.2.1.2.1.2.2.2.2.1, b.2.1.2.1.2.2.2.2.2.1, b.2.1.2.1.2.2.2.2.2.2.1, b.2.1.2.1.2.2.2.2.2.2.2.1, b.2.1.2.1.2.2.2.2.2.2.2.2.1, b.2.1.2.1.2.2.2.2.2.2.2.2.2.1, b.2.1.2.2.1.1, b.2.1.2.2.1.2.1, b.2.1.2.2.1.2.2.1, b.2.1.2.2.1.2.2.2.1, b.2.1.2.2.1.2.2.2.2.1, b.2.1.2.2.1.2.2.2.2.2.1, b.2.1.2.2.1.2.2.2.2.2.2.1, b.2.1.2.2.1.2.2.2.2.2.2.2.1, b.2.1.2.2.1.2.2.2.2.2.2.2.2.1, b.2.1.2.2.1.2.2.2.2.2.2.2.2.2.1, b.2.1.2.2.2.1.1) (Sum.elim (fun d => K (AX.ret) (St.mk
  [AV.und, AV.und, AV.und, AV.und, AV.r (RV.c (CV.f (FV.b false))), AV.und, AV.und, AV.und, AV.und, AV.und, AV.und, AV.und, AV.und, AV.und, AV.und, AV.und, AV.und, AV.und, AV.und, AV.und, AV.und,
    AV.und, AV.und, AV.und, AV.und, AV.und, AV.und, AV.und, AV.und, AV.und, AV.und, AV.und, AV.und, AV.und, AV.und, AV.und, AV.und, AV.und, AV.und, AV.und, AV.und, AV.und, AV.und, AV.und, AV.und,
    AV.und, AV.und, AV.und, AV.und, AV.und, AV.und, AV.und, AV.und, AV.und, AV.und, AV.und, AV.und, AV.und, AV.und, AV.und, AV.und, AV.und, AV.und, AV.und, AV.und, AV.und, AV.und, AV.und, AV.und,
    AV.und, AV.und, AV.und, AV.und, AV.und, AV.und, AV.und, AV.und, AV.und, AV.und, AV.und, AV.und, AV.und, AV.und, AV.und, AV.und, AV.und, AV.und, AV.und, AV.und, AV.und, AV.und, AV.und, AV.und,
    AV.und, AV.und, AV.und, AV.und, AV.und, AV.und, AV.und, AV.und, AV.und, AV.und, AV.und, AV.und, AV.und, AV.und, AV.und, AV.und, AV.und, AV.und, AV.und, AV.und, AV.und, AV.und, AV.und]
  [some
      [Sg.a (Sz.s d.1)
          [Col.i IntKind.i64 d.2.1, Col.i IntKind.i64 d.2.2.1, Col.i IntKind.i64 d.2.2.2.1, Col.i IntKind.i64 d.2.2.2.2.1, Col.i IntKind.i64 d.2.2.2.2.2.1,
            Col.i IntKind.i64 d.2.2.2.2.2.2.1, Col.i IntKind.i64 d.2.2.2.2.2.2.2.1, Col.i IntKind.i64 d.2.2.2.2.2.2.2.2]]]
  [])) (fun d => K (AX.ex 0) (St.mk
  [AV.und, AV.r (RV.c (CV.sl 0 (Off.k 0) (Sz.s d.1) 8 d.2.1)), AV.und, AV.tup [], AV.und, AV.r (RV.c (CV.ptr 1 (Off.k 0) 10)), AV.und, AV.r (RV.c (CV.ptr 2 (Off.k 0) 10)),
    AV.r (RV.c (CV.ptr 3 (Off.k 0) 1)), AV.r (RV.c (CV.f (FV.i IntKind.i64 d.2.2.1))), AV.und, AV.und, AV.und, AV.und, AV.und, AV.und, AV.und, AV.und, AV.und, AV.und, AV.und, AV.und, AV.und,
    AV.r (RV.c (CV.f (FV.i IntKind.i64 d.2.2.2.1))), AV.und, AV.und, AV.und, AV.und, AV.und, AV.und, AV.und, AV.und, AV.und, AV.und, AV.und, AV.und, AV.und, AV.und, AV.und, AV.und, AV.und,
    AV.und, AV.und, AV.und, AV.und, AV.und, AV.und, AV.und, AV.r (RV.c (CV.f (FV.i IntKind.i64 d.2.2.1))), AV.r (RV.c (CV.sl 0 (Off.k 0) (Sz.s d.1) 8 d.2.1)),
    AV.r (RV.c (CV.f (FV.i IntKind.i64 d.2.2.2.2.1))), AV.r (RV.c (CV.f (FV.b d.2.2.2.2.2.1))), AV.und, AV.und, AV.und, AV.und, AV.und, AV.und, AV.und, AV.und, AV.und, AV.und,
    AV.und, AV.und, AV.und, AV.und, AV.und, AV.und, AV.und, AV.und, AV.und, AV.und, AV.und, AV.und, AV.und, AV.und, AV.und, AV.und, AV.und, AV.und, AV.und, AV.und, AV.und, AV.und, AV.und, AV.und,
    AV.und, AV.und, AV.und, AV.und, AV.und, AV.und, AV.und, AV.und, AV.und, AV.und, AV.und, AV.und, AV.und, AV.und, AV.und, AV.und, AV.und, AV.und, AV.und, AV.und, AV.und, AV.und, AV.und, AV.und,
    AV.und, AV.und, AV.und, AV.und, AV.und, AV.und]
  [some
      [Sg.a (Sz.s d.2.2.2.2.2.2.1)
          [Col.i IntKind.i64 d.2.2.2.2.2.2.2.1, Col.i IntKind.i64 d.2.2.2.2.2.2.2.2.1, Col.i IntKind.i64 d.2.2.2.2.2.2.2.2.2.1,
            Col.i IntKind.i64 d.2.2.2.2.2.2.2.2.2.2.1, Col.i IntKind.i64 d.2.2.2.2.2.2.2.2.2.2.2.1,
            Col.i IntKind.i64 d.2.2.2.2.2.2.2.2.2.2.2.2.1, Col.i IntKind.i64 d.2.2.2.2.2.2.2.2.2.2.2.2.2.1,
            Col.i IntKind.i64 d.2.2.2.2.2.2.2.2.2.2.2.2.2.2.1]],
    some
      [Sg.c (CV.f (FV.i IntKind.i64 d.2.2.2.2.2.2.2.2.2.2.2.2.2.2.2.1)),
        Sg.c (CV.f (FV.i IntKind.i64 d.2.2.2.2.2.2.2.2.2.2.2.2.2.2.2.2.1)),
        Sg.c (CV.f (FV.i IntKind.i64 d.2.2.2.2.2.2.2.2.2.2.2.2.2.2.2.2.2.1)),
        Sg.c (CV.f (FV.i IntKind.i64 d.2.2.2.2.2.2.2.2.2.2.2.2.2.2.2.2.2.2.1)),
        Sg.c (CV.f (FV.i IntKind.i64 d.2.2.2.2.2.2.2.2.2.2.2.2.2.2.2.2.2.2.2.1)),
        Sg.c (CV.f (FV.i IntKind.i64 d.2.2.2.2.2.2.2.2.2.2.2.2.2.2.2.2.2.2.2.2.1)),
        Sg.c (CV.f (FV.i IntKind.i64 d.2.2.2.2.2.2.2.2.2.2.2.2.2.2.2.2.2.2.2.2.2.1)),
        Sg.c (CV.f (FV.i IntKind.i64 d.2.2.2.2.2.2.2.2.2.2.2.2.2.2.2.2.2.2.2.2.2.2.1)),
        Sg.c (CV.f (FV.i IntKind.i64 d.2.2.2.2.2.2.2.2.2.2.2.2.2.2.2.2.2.2.2.2.2.2.2.1)),
        Sg.c (CV.f (FV.b d.2.2.2.2.2.2.2.2.2.2.2.2.2.2.2.2.2.2.2.2.2.2.2.2.1))],
    some
      [Sg.c (CV.f (FV.i IntKind.i64 d.2.2.2.2.2.2.2.2.2.2.2.2.2.2.2.2.2.2.2.2.2.2.2.2.2.1)),
        Sg.c (CV.f (FV.i IntKind.i64 d.2.2.2.2.2.2.2.2.2.2.2.2.2.2.2.2.2.2.2.2.2.2.2.2.2.2.1)),
        Sg.c (CV.f (FV.i IntKind.i64 d.2.2.2.2.2.2.2.2.2.2.2.2.2.2.2.2.2.2.2.2.2.2.2.2.2.2.2.1)),
        Sg.c (CV.f (FV.i IntKind.i64 d.2.2.2.2.2.2.2.2.2.2.2.2.2.2.2.2.2.2.2.2.2.2.2.2.2.2.2.2.1)),
        Sg.c (CV.f (FV.i IntKind.i64 d.2.2.2.2.2.2.2.2.2.2.2.2.2.2.2.2.2.2.2.2.2.2.2.2.2.2.2.2.2.1)),
        Sg.c (CV.f (FV.i IntKind.i64 d.2.2.2.2.2.2.2.2.2.2.2.2.2.2.2.2.2.2.2.2.2.2.2.2.2.2.2.2.2.2.1)),
        Sg.c (CV.f (FV.i IntKind.i64 d.2.2.2.2.2.2.2.2.2.2.2.2.2.2.2.2.2.2.2.2.2.2.2.2.2.2.2.2.2.2.2.1)),
        Sg.c (CV.f (FV.i IntKind.i64 d.2.2.2.2.2.2.2.2.2.2.2.2.2.2.2.2.2.2.2.2.2.2.2.2.2.2.2.2.2.2.2.2.1)),
        Sg.c (CV.f (FV.i IntKind.i64 d.2.2.2.2.2.2.2.2.2.2.2.2.2.2.2.2.2.2.2.2.2.2.2.2.2.2.2.2.2.2.2.2.2.1)),
        Sg.c (CV.f (FV.i IntKind.i64 d.2.2.2.2.2.2.2.2.2.2.2.2.2.2.2.2.2.2.2.2.2.2.2.2.2.2.2.2.2.2.2.2.2.2.1))],
    some [Sg.c (CV.f (FV.b d.2.2.2.2.2.2.2.2.2.2.2.2.2.2.2.2.2.2.2.2.2.2.2.2.2.2.2.2.2.2.2.2.2.2.2))]]
  [])))
theorem ms_astrolabelaw14_DownsPlays_0 {ρ σ : Type} (g_astrolabelaw14_awake : Option Bool) (g_downs_New : Int → Option (Unit ⊕ Int)) (g_astrolabelaw14_own : Int → Option Int) (g___downs_Sampler__Put : Int →
  Int →
    Int →
      Int →
        Int →
          Int →
            Int →
              Int →
                Int →
                  Int →
                    Int →
                      Int →
                        Int →
                          Int → Int → Int → Int → Bool → Bool → Option (Int × Int × Int × Int × Int × Int × Int × Int × Bool × Int × Int × Int × Int × Int × Int × Int × Int × Int × Int × Bool × Bool)) (g___astrolaberef13_Sampler__Put : Int →
  Int →
    Int →
      Int →
        Int →
          Int →
            Int →
              Int →
                Int →
                  Int → Int → Int → Int → Int → Int → Int → Int → Int → Option (Int × Int × Int × Int × Int × Int × Int × Int × Bool × Int × Int × Int × Int × Int × Int × Int × Int × Int × Int × Int)) (g___downs_Sampler__Pending : Int → Int → Int → Int → Int → Int → Int → Int → Int → Bool → Option Int) (g_downs_Good : Int → Int → Int → Int → Int → Int → Int → Int → Option Bool) (g_astrolaberef13_Good : Int → Int → Int → Int → Int → Int → Int → Int → Option Bool)   (q : ρ → Option σ) (x0 : Nat) (x1 : Bool) (x2 : Int) (x3 : Int) (x4 : Nat) (x5 : Nat → Int) (x6 : Nat → Int) (x7 : Nat → Int) (x8 : Nat → Int) (x9 : Nat → Int) (x10 : Nat → Int) (x11 : Nat → Int) (x12 : Nat → Int) (x13 : Int) (x14 : Int) (x15 : Int) (x16 : Int) (x17 : Int) (x18 : Int) (x19 : Int) (x20 : Int) (x21 : Int) (x22 : Bool) (x23 : Int) (x24 : Int) (x25 : Int) (x26 : Int) (x27 : Int) (x28 : Int) (x29 : Int) (x30 : Int) (x31 : Int) (x32 : Int) (x33 : Bool) (c : (Nat ×
  Bool ×
    Int ×
      Int ×
        Nat ×
          (Nat → Int) ×
            (Nat → Int) ×
              (Nat → Int) ×
                (Nat → Int) ×
                  (Nat → Int) × (Nat → Int) × (Nat → Int) × (Nat → Int) × Int × Int × Int × Int × Int × Int × Int × Int × Int × Bool × Int × Int × Int × Int × Int × Int × Int × Int × Int × Int × Bool) → Option ρ) (x : (Nat × (Nat → Int) × (Nat → Int) × (Nat → Int) × (Nat → Int) × (Nat → Int) × (Nat → Int) × (Nat → Int) × (Nat → Int) ⊕
  Nat ×
    Bool ×
      Int ×
        Int ×
          Int ×
            Bool ×
              Nat ×
                (Nat → Int) ×
                  (Nat → Int) ×
                    (Nat → Int) ×
                      (Nat → Int) ×
                        (Nat → Int) ×
                          (Nat → Int) × (Nat → Int) × (Nat → Int) × Int × Int × Int × Int × Int × Int × Int × Int × Int × Bool × Int × Int × Int × Int × Int × Int × Int × Int × Int × Int × Bool) → Option ρ) : (S_astrolabelaw14_DownsPlays_0 g_astrolabelaw14_awake g_downs_New g_astrolabelaw14_own g___downs_Sampler__Put g___astrolaberef13_Sampler__Put g___downs_Sampler__Pending g_downs_Good g_astrolaberef13_Good  x0 x1 x2 x3 x4 x5 x6 x7 x8 x9 x10 x11 x12 x13 x14 x15 x16 x17 x18 x19 x20 x21 x22 x23 x24 x25 x26 x27 x28 x29 x30 x31 x32 x33 c x).bind q = S_astrolabelaw14_DownsPlays_0 g_astrolabelaw14_awake g_downs_New g_astrolabelaw14_own g___downs_Sampler__Put g___astrolaberef13_Sampler__Put g___downs_Sampler__Pending g_downs_Good g_astrolaberef13_Good  x0 x1 x2 x3 x4 x5 x6 x7 x8 x9 x10 x11 x12 x13 x14 x15 x16 x17 x18 x19 x20 x21 x22 x23 x24 x25 x26 x27 x28 x29 x30 x31 x32 x33 (fun d => (c d).bind q) (fun d => (x d).bind q) := by
  simp only [S_astrolabelaw14_DownsPlays_0, bnd_cond, bnd_bind, bnd_none, bnd_sum]
def L_astrolabelaw14_DownsPlays_0 {ρ : Type} (d : Nat ×
  Bool ×
    Int ×
      Int ×
        Nat ×
          (Nat → Int) ×
            (Nat → Int) ×
              (Nat → Int) ×
                (Nat → Int) ×
                  (Nat → Int) × (Nat → Int) × (Nat → Int) × (Nat → Int) × Int × Int × Int × Int × Int × Int × Int × Int × Int × Bool × Int × Int × Int × Int × Int × Int × Int × Int × Int × Int × Bool) (k : (Nat × (Nat → Int) × (Nat → Int) × (Nat → Int) × (Nat → Int) × (Nat → Int) × (Nat → Int) × (Nat → Int) × (Nat → Int) ⊕
  Nat ×
    Bool ×
      Int ×
        Int ×
          Int ×
            Bool ×
              Nat ×
                (Nat → Int) ×
                  (Nat → Int) ×
                    (Nat → Int) ×
                      (Nat → Int) ×
                        (Nat → Int) ×
                          (Nat → Int) × (Nat → Int) × (Nat → Int) × Int × Int × Int × Int × Int × Int × Int × Int × Int × Bool × Int × Int × Int × Int × Int × Int × Int × Int × Int × Int × Bool) → Option ρ) : Option ρ := loopK (fun d c x => S_astrolabelaw14_DownsPlays_0 f_astrolabelaw14_awake f_downs_New f_astrolabelaw14_own f___downs_Sampler__Put f___astrolaberef13_Sampler__Put f___downs_Sampler__Pending f_downs_Good f_astrolaberef13_Good  d.1 d.2.1 d.2.2.1 d.2.2.2.1 d.2.2.2.2.1 d.2.2.2.2.2.1 d.2.2.2.2.2.2.1 d.2.2.2.2.2.2.2.1 d.2.2.2.2.2.2.2.2.1 d.2.2.2.2.2.2.2.2.2.1 d.2.2.2.2.2.2.2.2.2.2.1 d.2.2.2.2.2.2.2.2.2.2.2.1 d.2.2.2.2.2.2.2.2.2.2.2.2.1 d.2.2.2.2.2.2.2.2.2.2.2.2.2.1 d.2.2.2.2.2.2.2.2.2.2.2.2.2.2.1 d.2.2.2.2.2.2.2.2.2.2.2.2.2.2.2.1 d.2.2.2.2.2.2.2.2.2.2.2.2.2.2.2.2.1 d.2.2.2.2.2.2.2.2.2.2.2.2.2.2.2.2.2.1 d.2.2.2.2.2.2.2.2.2.2.2.2.2.2.2.2.2.2.1 d.2.2.2.2.2.2.2.2.2.2.2.2.2.2.2.2.2.2.2.1 d.2.2.2.2.2.2.2.2.2.2.2.2.2.2.2.2.2.2.2.2.1 d.2.2.2.2.2.2.2.2.2.2.2.2.2.2.2.2.2.2.2.2.2.1 d.2.2.2.2.2.2.2.2.2.2.2.2.2.2.2.2.2.2.2.2.2.2.1 d.2.2.2.2.2.2.2.2.2.2.2.2.2.2.2.2.2.2.2.2.2.2.2.1 d.2.2.2.2.2.2.2.2.2.2.2.2.2.2.2.2.2.2.2.2.2.2.2.2.1 d.2.2.2.2.2.2.2.2.2.2.2.2.2.2.2.2.2.2.2.2.2.2.2.2.2.1 d.2.2.2.2.2.2.2.2.2.2.2.2.2.2.2.2.2.2.2.2.2.2.2.2.2.2.1 d.2.2.2.2.2.2.2.2.2.2.2.2.2.2.2.2.2.2.2.2.2.2.2.2.2.2.2.1 d.2.2.2.2.2.2.2.2.2.2.2.2.2.2.2.2.2.2.2.2.2.2.2.2.2.2.2.2.1 d.2.2.2.2.2.2.2.2.2.2.2.2.2.2.2.2.2.2.2.2.2.2.2.2.2.2.2.2.2.1 d.2.2.2.2.2.2.2.2.2.2.2.2.2.2.2.2.2.2.2.2.2.2.2.2.2.2.2.2.2.2.1 d.2.2.2.2.2.2.2.2.2.2.2.2.2.2.2.2.2.2.2.2.2.2.2.2.2.2.2.2.2.2.2.1 d.2.2.2.2.2.2.2.2.2.2.2.2.2.2.2.2.2.2.2.2.2.2.2.2.2.2.2.2.2.2.2.2.1 d.2.2.2.2.2.2.2.2.2.2.2.2.2.2.2.2.2.2.2.2.2.2.2.2.2.2.2.2.2.2.2.2.2 c x) 200 d k
theorem mL_astrolabelaw14_DownsPlays_0 {ρ σ : Type} (q : ρ → Option σ) (d : Nat ×
  Bool ×
    Int ×
      Int ×
        Nat ×
          (Nat → Int) ×
            (Nat → Int) ×
              (Nat → Int) ×
                (Nat → Int) ×
                  (Nat → Int) × (Nat → Int) × (Nat → Int) × (Nat → Int) × Int × Int × Int × Int × Int × Int × Int × Int × Int × Bool × Int × Int × Int × Int × Int × Int × Int × Int × Int × Int × Bool) (k : (Nat × (Nat → Int) × (Nat → Int) × (Nat → Int) × (Nat → Int) × (Nat → Int) × (Nat → Int) × (Nat → Int) × (Nat → Int) ⊕
  Nat ×
    Bool ×
      Int ×
        Int ×
          Int ×
            Bool ×
              Nat ×
                (Nat → Int) ×
                  (Nat → Int) ×
                    (Nat → Int) ×
                      (Nat → Int) ×
                        (Nat → Int) ×
                          (Nat → Int) × (Nat → Int) × (Nat → Int) × Int × Int × Int × Int × Int × Int × Int × Int × Int × Bool × Int × Int × Int × Int × Int × Int × Int × Int × Int × Int × Bool) → Option ρ) : (L_astrolabelaw14_DownsPlays_0 d k).bind q = L_astrolabelaw14_DownsPlays_0 d fun x => (k x).bind q :=
  loopK_bind q (fun d c x => ms_astrolabelaw14_DownsPlays_0 f_astrolabelaw14_awake f_downs_New f_astrolabelaw14_own f___downs_Sampler__Put f___astrolaberef13_Sampler__Put f___downs_Sampler__Pending f_downs_Good f_astrolaberef13_Good   q d.1 d.2.1 d.2.2.1 d.2.2.2.1 d.2.2.2.2.1 d.2.2.2.2.2.1 d.2.2.2.2.2.2.1 d.2.2.2.2.2.2.2.1 d.2.2.2.2.2.2.2.2.1 d.2.2.2.2.2.2.2.2.2.1 d.2.2.2.2.2.2.2.2.2.2.1 d.2.2.2.2.2.2.2.2.2.2.2.1 d.2.2.2.2.2.2.2.2.2.2.2.2.1 d.2.2.2.2.2.2.2.2.2.2.2.2.2.1 d.2.2.2.2.2.2.2.2.2.2.2.2.2.2.1 d.2.2.2.2.2.2.2.2.2.2.2.2.2.2.2.1 d.2.2.2.2.2.2.2.2.2.2.2.2.2.2.2.2.1 d.2.2.2.2.2.2.2.2.2.2.2.2.2.2.2.2.2.1 d.2.2.2.2.2.2.2.2.2.2.2.2.2.2.2.2.2.2.1 d.2.2.2.2.2.2.2.2.2.2.2.2.2.2.2.2.2.2.2.1 d.2.2.2.2.2.2.2.2.2.2.2.2.2.2.2.2.2.2.2.2.1 d.2.2.2.2.2.2.2.2.2.2.2.2.2.2.2.2.2.2.2.2.2.1 d.2.2.2.2.2.2.2.2.2.2.2.2.2.2.2.2.2.2.2.2.2.2.1 d.2.2.2.2.2.2.2.2.2.2.2.2.2.2.2.2.2.2.2.2.2.2.2.1 d.2.2.2.2.2.2.2.2.2.2.2.2.2.2.2.2.2.2.2.2.2.2.2.2.1 d.2.2.2.2.2.2.2.2.2.2.2.2.2.2.2.2.2.2.2.2.2.2.2.2.2.1 d.2.2.2.2.2.2.2.2.2.2.2.2.2.2.2.2.2.2.2.2.2.2.2.2.2.2.1 d.2.2.2.2.2.2.2.2.2.2.2.2.2.2.2.2.2.2.2.2.2.2.2.2.2.2.2.1 d.2.2.2.2.2.2.2.2.2.2.2.2.2.2.2.2.2.2.2.2.2.2.2.2.2.2.2.2.1 d.2.2.2.2.2.2.2.2.2.2.2.2.2.2.2.2.2.2.2.2.2.2.2.2.2.2.2.2.2.1 d.2.2.2.2.2.2.2.2.2.2.2.2.2.2.2.2.2.2.2.2.2.2.2.2.2.2.2.2.2.2.1 d.2.2.2.2.2.2.2.2.2.2.2.2.2.2.2.2.2.2.2.2.2.2.2.2.2.2.2.2.2.2.2.1 d.2.2.2.2.2.2.2.2.2.2.2.2.2.2.2.2.2.2.2.2.2.2.2.2.2.2.2.2.2.2.2.2.1 d.2.2.2.2.2.2.2.2.2.2.2.2.2.2.2.2.2.2.2.2.2.2.2.2.2.2.2.2.2.2.2.2.2 c x) k _ d
theorem ds_astrolabelaw14_DownsPlays_0 {ρ : Type} (g_astrolabelaw14_awake : Option Bool) (g_downs_New : Int → Option (Unit ⊕ Int)) (g_astrolabelaw14_own : Int → Option Int) (g___downs_Sampler__Put : Int →
  Int →
    Int →
      Int →
        Int →
          Int →
            Int →
              Int →
                Int →
                  Int →
                    Int →
                      Int →
                        Int →
                          Int → Int → Int → Int → Bool → Bool → Option (Int × Int × Int × Int × Int × Int × Int × Int × Bool × Int × Int × Int × Int × Int × Int × Int × Int × Int × Int × Bool × Bool)) (g___astrolaberef13_Sampler__Put : Int →
  Int →
    Int →
      Int →
        Int →
          Int →
            Int →
              Int →
                Int →
                  Int → Int → Int → Int → Int → Int → Int → Int → Int → Option (Int × Int × Int × Int × Int × Int × Int × Int × Bool × Int × Int × Int × Int × Int × Int × Int × Int × Int × Int × Int)) (g___downs_Sampler__Pending : Int → Int → Int → Int → Int → Int → Int → Int → Int → Bool → Option Int) (g_downs_Good : Int → Int → Int → Int → Int → Int → Int → Int → Option Bool) (g_astrolaberef13_Good : Int → Int → Int → Int → Int → Int → Int → Int → Option Bool) (l_0 : ∀ {ρ : Type}, (Nat ×
  Bool ×
    Int ×
      Int ×
        Nat ×
          (Nat → Int) ×
            (Nat → Int) ×
              (Nat → Int) ×
                (Nat → Int) ×
                  (Nat → Int) × (Nat → Int) × (Nat → Int) × (Nat → Int) × Int × Int × Int × Int × Int × Int × Int × Int × Int × Bool × Int × Int × Int × Int × Int × Int × Int × Int × Int × Int × Bool) → ((Nat × (Nat → Int) × (Nat → Int) × (Nat → Int) × (Nat → Int) × (Nat → Int) × (Nat → Int) × (Nat → Int) × (Nat → Int) ⊕
  Nat ×
    Bool ×
      Int ×
        Int ×
          Int ×
            Bool ×
              Nat ×
                (Nat → Int) ×
                  (Nat → Int) ×
                    (Nat → Int) ×
                      (Nat → Int) ×
                        (Nat → Int) ×
                          (Nat → Int) × (Nat → Int) × (Nat → Int) × Int × Int × Int × Int × Int × Int × Int × Int × Int × Bool × Int × Int × Int × Int × Int × Int × Int × Int × Int × Int × Bool) → Option ρ) → Option ρ) (x0 : Nat) (x1 : Bool) (x2 : Int) (x3 : Int) (x4 : Nat) (x5 : Nat → Int) (x6 : Nat → Int) (x7 : Nat → Int) (x8 : Nat → Int) (x9 : Nat → Int) (x10 : Nat → Int) (x11 : Nat → Int) (x12 : Nat → Int) (x13 : Int) (x14 : Int) (x15 : Int) (x16 : Int) (x17 : Int) (x18 : Int) (x19 : Int) (x20 : Int) (x21 : Int) (x22 : Bool) (x23 : Int) (x24 : Int) (x25 : Int) (x26 : Int) (x27 : Int) (x28 : Int) (x29 : Int) (x30 : Int) (x31 : Int) (x32 : Int) (x33 : Bool) (c : St → Option ρ) (K : AX → St → Option ρ) :
    runC Try.prog (envOf [(30, F_astrolabelaw14_awake g_astrolabelaw14_awake), (31, F_downs_New g_downs_New), (36, F_astrolabelaw14_own g_astrolabelaw14_own), (32, F___downs_Sampler__Put g___downs_Sampler__Put), (37, F___astrolaberef13_Sampler__Put g___astrolaberef13_Sampler__Put), (35, F___downs_Sampler__Pending g___downs_Sampler__Pending), (34, F_downs_Good g_downs_Good), (38, F_astrolaberef13_Good g_astrolaberef13_Good)]) ⟨[⟨11, [0, 2, 4, 6, 10, 11, 12, 13, 14, 15, 16, 17, 18, 19, 20, 21, 22, 24, 25, 26, 27, 28, 29, 30, 31, 32, 33, 34, 35, 36, 37, 38, 39, 40, 41, 42, 43, 44, 45, 46, 47, 48, 49, 50, 51, 52, 53, 54, 55, 56, 57, 58, 59, 60, 61, 62, 63, 64, 65, 66, 67, 68, 69, 70, 71, 72, 73, 74, 75, 76, 77, 78, 82, 83, 87, 88, 97, 98, 110, 111, 112, 113, 114, 115, 79, 80, 81, 84, 85, 86, 89, 90, 91, 92, 93, 94, 95, 96, 99, 100, 101, 102, 103, 104, 105, 106, 107, 108, 109], []⟩], [⟨11, 1, @R_astrolabelaw14_DownsPlays_0 (@l_0)⟩], [], [], (some ⟨0, [0, 1, 2, 3, 5, 6, 7, 8, 9, 10, 11, 12, 13, 14, 15, 16, 17, 18, 19, 20, 21, 22, 23, 24, 25, 26, 27, 28, 29, 30, 31, 32, 33, 34, 35, 36, 37, 38, 39, 40, 41, 42, 43, 44, 45, 46, 47, 48, 49, 50, 51, 52, 53, 54, 55, 56, 57, 58, 59, 60, 61, 62, 63, 64, 65, 66, 67, 68, 69, 70, 71, 72, 73, 74, 75, 76, 77, 78, 79, 80, 81, 82, 83, 84, 85, 86, 87, 88, 89, 90, 91, 92, 93, 94, 95, 96, 97, 98, 99, 100, 101, 102, 103, 104, 105, 106, 107, 108, 109, 110, 111, 112, 113, 114, 115], []⟩)⟩ (tmpsOf Try.prog 8) 1 200 (loopIn Try.prog 8 11)
      (St.mk
    [AV.und, AV.r (RV.c (CV.sl 0 (Off.k 0) (Sz.s x0) 8 x1)), AV.und, AV.tup [], AV.und, AV.r (RV.c (CV.ptr 1 (Off.k 0) 10)), AV.und, AV.r (RV.c (CV.ptr 2 (Off.k 0) 10)),
      AV.r (RV.c (CV.ptr 3 (Off.k 0) 1)), AV.r (RV.c (CV.f (FV.i IntKind.i64 x2))), AV.und, AV.und, AV.und, AV.und, AV.und, AV.und, AV.und, AV.und, AV.und, AV.und, AV.und, AV.und, AV.und,
      AV.r (RV.c (CV.f (FV.i IntKind.i64 x3))), AV.und, AV.und, AV.und, AV.und, AV.und, AV.und, AV.und, AV.und, AV.und, AV.und, AV.und, AV.und, AV.und, AV.und, AV.und, AV.und, AV.und, AV.und, AV.und,
      AV.und, AV.und, AV.und, AV.und, AV.und, AV.und, AV.und, AV.und, AV.und, AV.und, AV.und, AV.und, AV.und, AV.und, AV.und, AV.und, AV.und, AV.und, AV.und, AV.und, AV.und, AV.und, AV.und, AV.und,
      AV.und, AV.und, AV.und, AV.und, AV.und, AV.und, AV.und, AV.und, AV.und, AV.und, AV.und, AV.und, AV.und, AV.und, AV.und, AV.und, AV.und, AV.und, AV.und, AV.und, AV.und, AV.und, AV.und, AV.und,
      AV.und, AV.und, AV.und, AV.und, AV.und, AV.und, AV.und, AV.und, AV.und, AV.und, AV.und, AV.und, AV.und, AV.und, AV.und, AV.und, AV.und, AV.und, AV.und, AV.und, AV.und, AV.und, AV.und, AV.und,
      AV.und]
    [some
        [Sg.a (Sz.s x4)
            [Col.i IntKind.i64 x5, Col.i IntKind.i64 x6, Col.i IntKind.i64 x7, Col.i IntKind.i64 x8, Col.i IntKind.i64 x9, Col.i IntKind.i64 x10, Col.i IntKind.i64 x11, Col.i IntKind.i64 x12]],
      some
        [Sg.c (CV.f (FV.i IntKind.i64 x13)), Sg.c (CV.f (FV.i IntKind.i64 x14)), Sg.c (CV.f (FV.i IntKind.i64 x15)), Sg.c (CV.f (FV.i IntKind.i64 x16)), Sg.c (CV.f (FV.i IntKind.i64 x17)),
          Sg.c (CV.f (FV.i IntKind.i64 x18)), Sg.c (CV.f (FV.i IntKind.i64 x19)), Sg.c (CV.f (FV.i IntKind.i64 x20)), Sg.c (CV.f (FV.i IntKind.i64 x21)), Sg.c (CV.f (FV.b x22))],
      some
        [Sg.c (CV.f (FV.i IntKind.i64 x23)), Sg.c (CV.f (FV.i IntKind.i64 x24)), Sg.c (CV.f (FV.i IntKind.i64 x25)), Sg.c (CV.f (FV.i IntKind.i64 x26)), Sg.c (CV.f (FV.i IntKind.i64 x27)),
          Sg.c (CV.f (FV.i IntKind.i64 x28)), Sg.c (CV.f (FV.i IntKind.i64 x29)), Sg.c (CV.f (FV.i IntKind.i64 x30)), Sg.c (CV.f (FV.i IntKind.i64 x31)), Sg.c (CV.f (FV.i IntKind.i64 x32))],
      some [Sg.c (CV.f (FV.b x33))]]
    [])
      (next (fun t => t.head 1 ⟨[⟨11, [0, 2, 4, 6, 10, 11, 12, 13, 14, 15, 16, 17, 18, 19, 20, 21, 22, 24, 25, 26, 27, 28, 29, 30, 31, 32, 33, 34, 35, 36, 37, 38, 39, 40, 41, 42, 43, 44, 45, 46, 47, 48, 49, 50, 51, 52, 53, 54, 55, 56, 57, 58, 59, 60, 61, 62, 63, 64, 65, 66, 67, 68, 69, 70, 71, 72, 73, 74, 75, 76, 77, 78, 82, 83, 87, 88, 97, 98, 110, 111, 112, 113, 114, 115, 79, 80, 81, 84, 85, 86, 89, 90, 91, 92, 93, 94, 95, 96, 99, 100, 101, 102, 103, 104, 105, 106, 107, 108, 109], []⟩], [⟨11, 1, @R_astrolabelaw14_DownsPlays_0 (@l_0)⟩], [], [], (some ⟨0, [0, 1, 2, 3, 5, 6, 7, 8, 9, 10, 11, 12, 13, 14, 15, 16, 17, 18, 19, 20, 21, 22, 23, 24, 25, 26, 27, 28, 29, 30, 31, 32, 33, 34, 35, 36, 37, 38, 39, 40, 41, 42, 43, 44, 45, 46, 47, 48, 49, 50, 51, 52, 53, 54, 55, 56, 57, 58, 59, 60, 61, 62, 63, 64, 65, 66, 67, 68, 69, 70, 71, 72, 73, 74, 75, 76, 77, 78, 79, 80, 81, 82, 83, 84, 85, 86, 87, 88, 89, 90, 91, 92, 93, 94, 95, 96, 97, 98, 99, 100, 101, 102, 103, 104, 105, 106, 107, 108, 109, 110, 111, 112, 113, 114, 115], []⟩)⟩ (loopIn Try.prog 8 11)) c K) =
    S_astrolabelaw14_DownsPlays_0 g_astrolabelaw14_awake g_downs_New g_astrolabelaw14_own g___downs_Sampler__Put g___astrolaberef13_Sampler__Put g___downs_Sampler__Pending g_downs_Good g_astrolaberef13_Good  x0 x1 x2 x3 x4 x5 x6 x7 x8 x9 x10 x11 x12 x13 x14 x15 x16 x17 x18 x19 x20 x21 x22 x23 x24 x25 x26 x27 x28 x29 x30 x31 x32 x33 (fun d => c (St.mk
  [AV.und, AV.r (RV.c (CV.sl 0 (Off.k 0) (Sz.s d.1) 8 d.2.1)), AV.und, AV.tup [], AV.und, AV.r (RV.c (CV.ptr 1 (Off.k 0) 10)), AV.und, AV.r (RV.c (CV.ptr 2 (Off.k 0) 10)),
    AV.r (RV.c (CV.ptr 3 (Off.k 0) 1)), AV.r (RV.c (CV.f (FV.i IntKind.i64 d.2.2.1))), AV.und, AV.und, AV.und, AV.und, AV.und, AV.und, AV.und, AV.und, AV.und, AV.und, AV.und, AV.und, AV.und,
    AV.r (RV.c (CV.f (FV.i IntKind.i64 d.2.2.2.1))), AV.und, AV.und, AV.und, AV.und, AV.und, AV.und, AV.und, AV.und, AV.und, AV.und, AV.und, AV.und, AV.und, AV.und, AV.und, AV.und, AV.und,
    AV.und, AV.und, AV.und, AV.und, AV.und, AV.und, AV.und, AV.und, AV.und, AV.und, AV.und, AV.und, AV.und, AV.und, AV.und, AV.und, AV.und, AV.und, AV.und, AV.und, AV.und, AV.und, AV.und, AV.und,
    AV.und, AV.und, AV.und, AV.und, AV.und, AV.und, AV.und, AV.und, AV.und, AV.und, AV.und, AV.und, AV.und, AV.und, AV.und, AV.und, AV.und, AV.und, AV.und, AV.und, AV.und, AV.und, AV.und, AV.und,
    AV.und, AV.und, AV.und, AV.und, AV.und, AV.und, AV.und, AV.und, AV.und, AV.und, AV.und, AV.und, AV.und, AV.und, AV.und, AV.und, AV.und, AV.und, AV.und, AV.und, AV.und, AV.und, AV.und, AV.und,
    AV.und, AV.und, AV.und]
  [some
      [Sg.a (Sz.s d.2.2.2.2.1)
          [Col.i IntKind.i64 d.2.2.2.2.2.1, Col.i IntKind.i64 d.2.2.2.2.2.2.1, Col.i IntKind.i64 d.2.2.2.2.2.2.2.1,
            Col.i IntKind.i64 d.2.2.2.2.2.2.2.2.1, Col.i IntKind.i64 d.2.2.2.2.2.2.2.2.2.1, Col.i IntKind.i64 d.2.2.2.2.2.2.2.2.2.2.1,
            Col.i IntKind.i64 d.2.2.2.2.2.2.2.2.2.2.2.1, Col.i IntKind.i64 d.2.2.2.2.2.2.2.2.2.2.2.2.1]],
    some
      [Sg.c (CV.f (FV.i IntKind.i64 d.2.2.2.2.2.2.2.2.2.2.2.2.2.1)), Sg.c (CV.f (FV.i IntKind.i64 d.2.2.2.2.2.2.2.2.2.2.2.2.2.2.1)),
        Sg.c (CV.f (FV.i IntKind.i64 d.2.2.2.2.2.2.2.2.2.2.2.2.2.2.2.1)),
        Sg.c (CV.f (FV.i IntKind.i64 d.2.2.2.2.2.2.2.2.2.2.2.2.2.2.2.2.1)),
        Sg.c (CV.f (FV.i IntKind.i64 d.2.2.2.2.2.2.2.2.2.2.2.2.2.2.2.2.2.1)),
        Sg.c (CV.f (FV.i IntKind.i64 d.2.2.2.2.2.2.2.2.2.2.2.2.2.2.2.2.2.2.1)),
        Sg.c (CV.f (FV.i IntKind.i64 d.2.2.2.2.2.2.2.2.2.2.2.2.2.2.2.2.2.2.2.1)),
        Sg.c (CV.f (FV.i IntKind.i64 d.2.2.2.2.2.2.2.2.2.2.2.2.2.2.2.2.2.2.2.2.1)),
        Sg.c (CV.f (FV.i IntKind.i64 d.2.2.2.2.2.2.2.2.2.2.2.2.2.2.2.2.2.2.2.2.2.1)),
        Sg.c (CV.f (FV.b d.2.2.2.2.2.2.2.2.2.2.2.2.2.2.2.2.2.2.2.2.2.2.1))],
    some
      [Sg.c (CV.f (FV.i IntKind.i64 d.2.2.2.2.2.2.2.2.2.2.2.2.2.2.2.2.2.2.2.2.2.2.2.1)),
        Sg.c (CV.f (FV.i IntKind.i64 d.2.2.2.2.2.2.2.2.2.2.2.2.2.2.2.2.2.2.2.2.2.2.2.2.1)),
        Sg.c (CV.f (FV.i IntKind.i64 d.2.2.2.2.2.2.2.2.2.2.2.2.2.2.2.2.2.2.2.2.2.2.2.2.2.1)),
        Sg.c (CV.f (FV.i IntKind.i64 d.2.2.2.2.2.2.2.2.2.2.2.2.2.2.2.2.2.2.2.2.2.2.2.2.2.2.1)),
        Sg.c (CV.f (FV.i IntKind.i64 d.2.2.2.2.2.2.2.2.2.2.2.2.2.2.2.2.2.2.2.2.2.2.2.2.2.2.2.1)),
        Sg.c (CV.f (FV.i IntKind.i64 d.2.2.2.2.2.2.2.2.2.2.2.2.2.2.2.2.2.2.2.2.2.2.2.2.2.2.2.2.1)),
        Sg.c (CV.f (FV.i IntKind.i64 d.2.2.2.2.2.2.2.2.2.2.2.2.2.2.2.2.2.2.2.2.2.2.2.2.2.2.2.2.2.1)),
        Sg.c (CV.f (FV.i IntKind.i64 d.2.2.2.2.2.2.2.2.2.2.2.2.2.2.2.2.2.2.2.2.2.2.2.2.2.2.2.2.2.2.1)),
        Sg.c (CV.f (FV.i IntKind.i64 d.2.2.2.2.2.2.2.2.2.2.2.2.2.2.2.2.2.2.2.2.2.2.2.2.2.2.2.2.2.2.2.1)),
        Sg.c (CV.f (FV.i IntKind.i64 d.2.2.2.2.2.2.2.2.2.2.2.2.2.2.2.2.2.2.2.2.2.2.2.2.2.2.2.2.2.2.2.2.1))],
    some [Sg.c (CV.f (FV.b d.2.2.2.2.2.2.2.2.2.2.2.2.2.2.2.2.2.2.2.2.2.2.2.2.2.2.2.2.2.2.2.2.2))]]
  [])) (Sum.elim (fun d => K (AX.ret) (St.mk
  [AV.und, AV.und, AV.und, AV.und, AV.r (RV.c (CV.f (FV.b false))), AV.und, AV.und, AV.und, AV.und, AV.und, AV.und, AV.und, AV.und, AV.und, AV.und, AV.und, AV.und, AV.und, AV.und, AV.und, AV.und,
    AV.und, AV.und, AV.und, AV.und, AV.und, AV.und, AV.und, AV.und, AV.und, AV.und, AV.und, AV.und, AV.und, AV.und, AV.und, AV.und, AV.und, AV.und, AV.und, AV.und, AV.und, AV.und, AV.und, AV.und,
    AV.und, AV.und, AV.und, AV.und, AV.und, AV.und, AV.und, AV.und, AV.und, AV.und, AV.und, AV.und, AV.und, AV.und, AV.und, AV.und, AV.und, AV.und, AV.und, AV.und, AV.und, AV.und, AV.und, AV.und,
    AV.und, AV.und, AV.und, AV.und, AV.und, AV.und, AV.und, AV.und, AV.und, AV.und, AV.und, AV.und, AV.und, AV.und, AV.und, AV.und, AV.und, AV.und, AV.und, AV.und, AV.und, AV.und, AV.und, AV.und,
    AV.und, AV.und, AV.und, AV.und, AV.und, AV.und, AV.und, AV.und, AV.und, AV.und, AV.und, AV.und, AV.und, AV.und, AV.und, AV.und, AV.und, AV.und, AV.und, AV.und, AV.und, AV.und, AV.und]
  [some
      [Sg.a (Sz.s d.1)
          [Col.i IntKind.i64 d.2.1, Col.i IntKind.i64 d.2.2.1, Col.i IntKind.i64 d.2.2.2.1, Col.i IntKind.i64 d.2.2.2.2.1, Col.i IntKind.i64 d.2.2.2.2.2.1,
            Col.i IntKind.i64 d.2.2.2.2.2.2.1, Col.i IntKind.i64 d.2.2.2.2.2.2.2.1, Col.i IntKind.i64 d.2.2.2.2.2.2.2.2]]]
  [])) (fun d => K (AX.ex 0) (St.mk
  [AV.und, AV.r (RV.c (CV.sl 0 (Off.k 0) (Sz.s d.1) 8 d.2.1)), AV.und, AV.tup [], AV.und, AV.r (RV.c (CV.ptr 1 (Off.k 0) 10)), AV.und, AV.r (RV.c (CV.ptr 2 (Off.k 0) 10)),
    AV.r (RV.c (CV.ptr 3 (Off.k 0) 1)), AV.r (RV.c (CV.f (FV.i IntKind.i64 d.2.2.1))), AV.und, AV.und, AV.und, AV.und, AV.und, AV.und, AV.und, AV.und, AV.und, AV.und, AV.und, AV.und, AV.und,
    AV.r (RV.c (CV.f (FV.i IntKind.i64 d.2.2.2.1))), AV.und, AV.und, AV.und, AV.und, AV.und, AV.und, AV.und, AV.und, AV.und, AV.und, AV.und, AV.und, AV.und, AV.und, AV.und, AV.und, AV.und,
    AV.und, AV.und, AV.und, AV.und, AV.und, AV.und, AV.und, AV.r (RV.c (CV.f (FV.i IntKind.i64 d.2.2.1))), AV.r (RV.c (CV.sl 0 (Off.k 0) (Sz.s d.1) 8 d.2.1)),
    AV.r (RV.c (CV.f (FV.i IntKind.i64 d.2.2.2.2.1))), AV.r (RV.c (CV.f (FV.b d.2.2.2.2.2.1))), AV.und, AV.und, AV.und, AV.und, AV.und, AV.und, AV.und, AV.und, AV.und, AV.und,
    AV.und, AV.und, AV.und, AV.und, AV.und, AV.und, AV.und, AV.und, AV.und, AV.und, AV.und, AV.und, AV.und, AV.und, AV.und, AV.und, AV.und, AV.und, AV.und, AV.und, AV.und, AV.und, AV.und, AV.und,
    AV.und, AV.und, AV.und, AV.und, AV.und, AV.und, AV.und, AV.und, AV.und, AV.und, AV.und, AV.und, AV.und, AV.und, AV.und, AV.und, AV.und, AV.und, AV.und, AV.und, AV.und, AV.und, AV.und, AV.und,
    AV.und, AV.und, AV.und, AV.und, AV.und, AV.und]
  [some
      [Sg.a (Sz.s d.2.2.2.2.2.2.1)
          [Col.i IntKind.i64 d.2.2.2.2.2.2.2.1, Col.i IntKind.i64 d.2.2.2.2.2.2.2.2.1, Col.i IntKind.i64 d.2.2.2.2.2.2.2.2.2.1,
            Col.i IntKind.i64 d.2.2.2.2.2.2.2.2.2.2.1, Col.i IntKind.i64 d.2.2.2.2.2.2.2.2.2.2.2.1,
            Col.i IntKind.i64 d.2.2.2.2.2.2.2.2.2.2.2.2.1, Col.i IntKind.i64 d.2.2.2.2.2.2.2.2.2.2.2.2.2.1,
            Col.i IntKind.i64 d.2.2.2.2.2.2.2.2.2.2.2.2.2.2.1]],
    some
      [Sg.c (CV.f (FV.i IntKind.i64 d.2.2.2.2.2.2.2.2.2.2.2.2.2.2.2.1)),
        Sg.c (CV.f (FV.i IntKind.i64 d.2.2.2.2.2.2.2.2.2.2.2.2.2.2.2.2.1)),
        Sg.c (CV.f (FV.i IntKind.i64 d.2.2.2.2.2.2.2.2.2.2.2.2.2.2.2.2.2.1)),
        Sg.c (CV.f (FV.i IntKind.i64 d.2.2.2.2.2.2.2.2.2.2.2.2.2.2.2.2.2.2.1)),
        Sg.c (CV.f (FV.i IntKind.i64 d.2.2.2.2.2.2.2.2.2.2.2.2.2.2.2.2.2.2.2.1)),
        Sg.c (CV.f (FV.i IntKind.i64 d.2.2.2.2.2.2.2.2.2.2.2.2.2.2.2.2.2.2.2.2.1)),
        Sg.c (CV.f (FV.i IntKind.i64 d.2.2.2.2.2.2.2.2.2.2.2.2.2.2.2.2.2.2.2.2.2.1)),
        Sg.c (CV.f (FV.i IntKind.i64 d.2.2.2.2.2.2.2.2.2.2.2.2.2.2.2.2.2.2.2.2.2.2.1)),
        Sg.c (CV.f (FV.i IntKind.i64 d.2.2.2.2.2.2.2.2.2.2.2.2.2.2.2.2.2.2.2.2.2.2.2.1)),
        Sg.c (CV.f (FV.b d.2.2.2.2.2.2.2.2.2.2.2.2.2.2.2.2.2.2.2.2.2.2.2.2.1))],
    some
      [Sg.c (CV.f (FV.i IntKind.i64 d.2.2.2.2.2.2.2.2.2.2.2.2.2.2.2.2.2.2.2.2.2.2.2.2.2.1)),
        Sg.c (CV.f (FV.i IntKind.i64 d.2.2.2.2.2.2.2.2.2.2.2.2.2.2.2.2.2.2.2.2.2.2.2.2.2.2.1)),
        Sg.c (CV.f (FV.i IntKind.i64 d.2.2.2.2.2.2.2.2.2.2.2.2.2.2.2.2.2.2.2.2.2.2.2.2.2.2.2.1)),
        Sg.c (CV.f (FV.i IntKind.i64 d.2.2.2.2.2.2.2.2.2.2.2.2.2.2.2.2.2.2.2.2.2.2.2.2.2.2.2.2.1)),
        Sg.c (CV.f (FV.i IntKind.i64 d.2.2.2.2.2.2.2.2.2.2.2.2.2.2.2.2.2.2.2.2.2.2.2.2.2.2.2.2.2.1)),
        Sg.c (CV.f (FV.i IntKind.i64 d.2.2.2.2.2.2.2.2.2.2.2.2.2.2.2.2.2.2.2.2.2.2.2.2.2.2.2.2.2.2.1)),
        Sg.c (CV.f (FV.i IntKind.i64 d.2.2.2.2.2.2.2.2.2.2.2.2.2.2.2.2.2.2.2.2.2.2.2.2.2.2.2.2.2.2.2.1)),
        Sg.c (CV.f (FV.i IntKind.i64 d.2.2.2.2.2.2.2.2.2.2.2.2.2.2.2.2.2.2.2.2.2.2.2.2.2.2.2.2.2.2.2.2.1)),
        Sg.c (CV.f (FV.i IntKind.i64 d.2.2.2.2.2.2.2.2.2.2.2.2.2.2.2.2.2.2.2.2.2.2.2.2.2.2.2.2.2.2.2.2.2.1)),
        Sg.c (CV.f (FV.i IntKind.i64 d.2.2.2.2.2.2.2.2.2.2.2.2.2.2.2.2.2.2.2.2.2.2.2.2.2.2.2.2.2.2.2.2.2.2.1))],
    some [Sg.c (CV.f (FV.b d.2.2.2.2.2.2.2.2.2.2.2.2.2.2.2.2.2.2.2.2.2.2.2.2.2.2.2.2.2.2.2.2.2.2.2))]]
  []))) := by kernel_rfl
theorem it_astrolabelaw14_DownsPlays_0 {ρ : Type} (x0 : Nat) (x1 : Bool) (x2 : Int) (x3 : Int) (x4 : Nat) (x5 : Nat → Int) (x6 : Nat → Int) (x7 : Nat → Int) (x8 : Nat → Int) (x9 : Nat → Int) (x10 : Nat → Int) (x11 : Nat → Int) (x12 : Nat → Int) (x13 : Int) (x14 : Int) (x15 : Int) (x16 : Int) (x17 : Int) (x18 : Int) (x19 : Int) (x20 : Int) (x21 : Int) (x22 : Bool) (x23 : Int) (x24 : Int) (x25 : Int) (x26 : Int) (x27 : Int) (x28 : Int) (x29 : Int) (x30 : Int) (x31 : Int) (x32 : Int) (x33 : Bool) (K : AX → St → Option ρ) :
    iter (fun t => t.head 1 ⟨[⟨11, [0, 2, 4, 6, 10, 11, 12, 13, 14, 15, 16, 17, 18, 19, 20, 21, 22, 24, 25, 26, 27, 28, 29, 30, 31, 32, 33, 34, 35, 36, 37, 38, 39, 40, 41, 42, 43, 44, 45, 46, 47, 48, 49, 50, 51, 52, 53, 54, 55, 56, 57, 58, 59, 60, 61, 62, 63, 64, 65, 66, 67, 68, 69, 70, 71, 72, 73, 74, 75, 76, 77, 78, 82, 83, 87, 88, 97, 98, 110, 111, 112, 113, 114, 115, 79, 80, 81, 84, 85, 86, 89, 90, 91, 92, 93, 94, 95, 96, 99, 100, 101, 102, 103, 104, 105, 106, 107, 108, 109], []⟩], [⟨11, 1, @R_astrolabelaw14_DownsPlays_0 (@L_astrolabelaw14_DownsPlays_0)⟩], [], [], (some ⟨0, [0, 1, 2, 3, 5, 6, 7, 8, 9, 10, 11, 12, 13, 14, 15, 16, 17, 18, 19, 20, 21, 22, 23, 24, 25, 26, 27, 28, 29, 30, 31, 32, 33, 34, 35, 36, 37, 38, 39, 40, 41, 42, 43, 44, 45, 46, 47, 48, 49, 50, 51, 52, 53, 54, 55, 56, 57, 58, 59, 60, 61, 62, 63, 64, 65, 66, 67, 68, 69, 70, 71, 72, 73, 74, 75, 76, 77, 78, 79, 80, 81, 82, 83, 84, 85, 86, 87, 88, 89, 90, 91, 92, 93, 94, 95, 96, 97, 98, 99, 100, 101, 102, 103, 104, 105, 106, 107, 108, 109, 110, 111, 112, 113, 114, 115], []⟩)⟩ (loopIn Try.prog 8 11)) (runC Try.prog (envOf [(30, F_astrolabelaw14_awake f_astrolabelaw14_awake), (31, F_downs_New f_downs_New), (36, F_astrolabelaw14_own f_astrolabelaw14_own), (32, F___downs_Sampler__Put f___downs_Sampler__Put), (37, F___astrolaberef13_Sampler__Put f___astrolaberef13_Sampler__Put), (35, F___downs_Sampler__Pending f___downs_Sampler__Pending), (34, F_downs_Good f_downs_Good), (38, F_astrolaberef13_Good f_astrolaberef13_Good)]) ⟨[⟨11, [0, 2, 4, 6, 10, 11, 12, 13, 14, 15, 16, 17, 18, 19, 20, 21, 22, 24, 25, 26, 27, 28, 29, 30, 31, 32, 33, 34, 35, 36, 37, 38, 39, 40, 41, 42, 43, 44, 45, 46, 47, 48, 49, 50, 51, 52, 53, 54, 55, 56, 57, 58, 59, 60, 61, 62, 63, 64, 65, 66, 67, 68, 69, 70, 71, 72, 73, 74, 75, 76, 77, 78, 82, 83, 87, 88, 97, 98, 110, 111, 112, 113, 114, 115, 79, 80, 81, 84, 85, 86, 89, 90, 91, 92, 93, 94, 95, 96, 99, 100, 101, 102, 103, 104, 105, 106, 107, 108, 109], []⟩], [⟨11, 1, @R_astrolabelaw14_DownsPlays_0 (@L_astrolabelaw14_DownsPlays_0)⟩], [], [], (some ⟨0, [0, 1, 2, 3, 5, 6, 7, 8, 9, 10, 11, 12, 13, 14, 15, 16, 17, 18, 19, 20, 21, 22, 23, 24, 25, 26, 27, 28, 29, 30, 31, 32, 33, 34, 35, 36, 37, 38, 39, 40, 41, 42, 43, 44, 45, 46, 47, 48, 49, 50, 51, 52, 53, 54, 55, 56, 57, 58, 59, 60, 61, 62, 63, 64, 65, 66, 67, 68, 69, 70, 71, 72, 73, 74, 75, 76, 77, 78, 79, 80, 81, 82, 83, 84, 85, 86, 87, 88, 89, 90, 91, 92, 93, 94, 95, 96, 97, 98, 99, 100, 101, 102, 103, 104, 105, 106, 107, 108, 109, 110, 111, 112, 113, 114, 115], []⟩)⟩ (tmpsOf Try.prog 8) 1 200 (loopIn Try.prog 8 11)) K 200
      (St.mk
    [AV.und, AV.r (RV.c (CV.sl 0 (Off.k 0) (Sz.s x0) 8 x1)), AV.und, AV.tup [], AV.und, AV.r (RV.c (CV.ptr 1 (Off.k 0) 10)), AV.und, AV.r (RV.c (CV.ptr 2 (Off.k 0) 10)),
      AV.r (RV.c (CV.ptr 3 (Off.k 0) 1)), AV.r (RV.c (CV.f (FV.i IntKind.i64 x2))), AV.und, AV.und, AV.und, AV.und, AV.und, AV.und, AV.und, AV.und, AV.und, AV.und, AV.und, AV.und, AV.und,
      AV.r (RV.c (CV.f (FV.i IntKind.i64 x3))), AV.und, AV.und, AV.und, AV.und, AV.und, AV.und, AV.und, AV.und, AV.und, AV.und, AV.und, AV.und, AV.und, AV.und, AV.und, AV.und, AV.und, AV.und, AV.und,
      AV.und, AV.und, AV.und, AV.und, AV.und, AV.und, AV.und, AV.und, AV.und, AV.und, AV.und, AV.und, AV.und, AV.und, AV.und, AV.und, AV.und, AV.und, AV.und, AV.und, AV.und, AV.und, AV.und, AV.und,
      AV.und, AV.und, AV.und, AV.und, AV.und, AV.und, AV.und, AV.und, AV.und, AV.und, AV.und, AV.und, AV.und, AV.und, AV.und, AV.und, AV.und, AV.und, AV.und, AV.und, AV.und, AV.und, AV.und, AV.und,
      AV.und, AV.und, AV.und, AV.und, AV.und, AV.und, AV.und, AV.und, AV.und, AV.und, AV.und, AV.und, AV.und, AV.und, AV.und, AV.und, AV.und, AV.und, AV.und, AV.und, AV.und, AV.und, AV.und, AV.und,
      AV.und]
    [some
        [Sg.a (Sz.s x4)
            [Col.i IntKind.i64 x5, Col.i IntKind.i64 x6, Col.i IntKind.i64 x7, Col.i IntKind.i64 x8, Col.i IntKind.i64 x9, Col.i IntKind.i64 x10, Col.i IntKind.i64 x11, Col.i IntKind.i64 x12]],
      some
        [Sg.c (CV.f (FV.i IntKind.i64 x13)), Sg.c (CV.f (FV.i IntKind.i64 x14)), Sg.c (CV.f (FV.i IntKind.i64 x15)), Sg.c (CV.f (FV.i IntKind.i64 x16)), Sg.c (CV.f (FV.i IntKind.i64 x17)),
          Sg.c (CV.f (FV.i IntKind.i64 x18)), Sg.c (CV.f (FV.i IntKind.i64 x19)), Sg.c (CV.f (FV.i IntKind.i64 x20)), Sg.c (CV.f (FV.i IntKind.i64 x21)), Sg.c (CV.f (FV.b x22))],
      some
        [Sg.c (CV.f (FV.i IntKind.i64 x23)), Sg.c (CV.f (FV.i IntKind.i64 x24)), Sg.c (CV.f (FV.i IntKind.i64 x25)), Sg.c (CV.f (FV.i IntKind.i64 x26)), Sg.c (CV.f (FV.i IntKind.i64 x27)),
          Sg.c (CV.f (FV.i IntKind.i64 x28)), Sg.c (CV.f (FV.i IntKind.i64 x29)), Sg.c (CV.f (FV.i IntKind.i64 x30)), Sg.c (CV.f (FV.i IntKind.i64 x31)), Sg.c (CV.f (FV.i IntKind.i64 x32))],
      some [Sg.c (CV.f (FV.b x33))]]
    []) = L_astrolabelaw14_DownsPlays_0 (x0, x1, x2, x3, x4, x5, x6, x7, x8, x9, x10, x11, x12, x13, x14, x15, x16, x17, x18, x19, x20, x21, x22, x23, x24, x25, x26, x27, x28, x29, x30, x31, x32, x33) (Sum.elim (fun d => K (AX.ret) (St.mk
  [AV.und, AV.und, AV.und, AV.und, AV.r (RV.c (CV.f (FV.b false))), AV.und, AV.und, AV.und, AV.und, AV.und, AV.und, AV.und, AV.und, AV.und, AV.und, AV.und, AV.und, AV.und, AV.und, AV.und, AV.und,
    AV.und, AV.und, AV.und, AV.und, AV.und, AV.und, AV.und, AV.und, AV.und, AV.und, AV.und, AV.und, AV.und, AV.und, AV.und, AV.und, AV.und, AV.und, AV.und, AV.und, AV.und, AV.und, AV.und, AV.und,
    AV.und, AV.und, AV.und, AV.und, AV.und, AV.und, AV.und, AV.und, AV.und, AV.und, AV.und, AV.und, AV.und, AV.und, AV.und, AV.und, AV.und, AV.und, AV.und, AV.und, AV.und, AV.und, AV.und, AV.und,
    AV.und, AV.und, AV.und, AV.und, AV.und, AV.und, AV.und, AV.und, AV.und, AV.und, AV.und, AV.und, AV.und, AV.und, AV.und, AV.und, AV.und, AV.und, AV.und, AV.und, AV.und, AV.und, AV.und, AV.und,
    AV.und, AV.und, AV.und, AV.und, AV.und, AV.und, AV.und, AV.und, AV.und, AV.und, AV.und, AV.und, AV.und, AV.und, AV.und, AV.und, AV.und, AV.und, AV.und, AV.und, AV.und, AV.und, AV.und]
  [some
      [Sg.a (Sz.s d.1)
          [Col.i IntKind.i64 d.2.1, Col.i IntKind.i64 d.2.2.1, Col.i IntKind.i64 d.2.2.2.1, Col.i IntKind.i64 d.2.2.2.2.1, Col.i IntKind.i64 d.2.2.2.2.2.1,
            Col.i IntKind.i64 d.2.2.2.2.2.2.1, Col.i IntKind.i64 d.2.2.2.2.2.2.2.1, Col.i IntKind.i64 d.2.2.2.2.2.2.2.2]]]
  [])) (fun d => K (AX.ex 0) (St.mk
  [AV.und, AV.r (RV.c (CV.sl 0 (Off.k 0) (Sz.s d.1) 8 d.2.1)), AV.und, AV.tup [], AV.und, AV.r (RV.c (CV.ptr 1 (Off.k 0) 10)), AV.und, AV.r (RV.c (CV.ptr 2 (Off.k 0) 10)),
    AV.r (RV.c (CV.ptr 3 (Off.k 0) 1)), AV.r (RV.c (CV.f (FV.i IntKind.i64 d.2.2.1))), AV.und, AV.und, AV.und, AV.und, AV.und, AV.und, AV.und, AV.und, AV.und, AV.und, AV.und, AV.und, AV.und,
    AV.r (RV.c (CV.f (FV.i IntKind.i64 d.2.2.2.1))), AV.und, AV.und, AV.und, AV.und, AV.und, AV.und, AV.und, AV.und, AV.und, AV.und, AV.und, AV.und, AV.und, AV.und, AV.und, AV.und, AV.und,
    AV.und, AV.und, AV.und, AV.und, AV.und, AV.und, AV.und, AV.r (RV.c (CV.f (FV.i IntKind.i64 d.2.2.1))), AV.r (RV.c (CV.sl 0 (Off.k 0) (Sz.s d.1) 8 d.2.1)),
    AV.r (RV.c (CV.f (FV.i IntKind.i64 d.2.2.2.2.1))), AV.r (RV.c (CV.f (FV.b d.2.2.2.2.2.1))), AV.und, AV.und, AV.und, AV.und, AV.und, AV.und, AV.und, AV.und, AV.und, AV.und,
    AV.und, AV.und, AV.und, AV.und, AV.und, AV.und, AV.und, AV.und, AV.und, AV.und, AV.und, AV.und, AV.und, AV.und, AV.und, AV.und, AV.und, AV.und, AV.und, AV.und, AV.und, AV.und, AV.und, AV.und,
    AV.und, AV.und, AV.und, AV.und, AV.und, AV.und, AV.und, AV.und, AV.und, AV.und, AV.und, AV.und, AV.und, AV.und, AV.und, AV.und, AV.und, AV.und, AV.und, AV.und, AV.und, AV.und, AV.und, AV.und,
    AV.und, AV.und, AV.und, AV.und, AV.und, AV.und]
  [some
      [Sg.a (Sz.s d.2.2.2.2.2.2.1)
          [Col.i IntKind.i64 d.2.2.2.2.2.2.2.1, Col.i IntKind.i64 d.2.2.2.2.2.2.2.2.1, Col.i IntKind.i64 d.2.2.2.2.2.2.2.2.2.1,
            Col.i IntKind.i64 d.2.2.2.2.2.2.2.2.2.2.1, Col.i IntKind.i64 d.2.2.2.2.2.2.2.2.2.2.2.1,
            Col.i IntKind.i64 d.2.2.2.2.2.2.2.2.2.2.2.2.1, Col.i IntKind.i64 d.2.2.2.2.2.2.2.2.2.2.2.2.2.1,
            Col.i IntKind.i64 d.2.2.2.2.2.2.2.2.2.2.2.2.2.2.1]],
    some
      [Sg.c (CV.f (FV.i IntKind.i64 d.2.2.2.2.2.2.2.2.2.2.2.2.2.2.2.1)),
        Sg.c (CV.f (FV.i IntKind.i64 d.2.2.2.2.2.2.2.2.2.2.2.2.2.2.2.2.1)),
        Sg.c (CV.f (FV.i IntKind.i64 d.2.2.2.2.2.2.2.2.2.2.2.2.2.2.2.2.2.1)),
        Sg.c (CV.f (FV.i IntKind.i64 d.2.2.2.2.2.2.2.2.2.2.2.2.2.2.2.2.2.2.1)),
        Sg.c (CV.f (FV.i IntKind.i64 d.2.2.2.2.2.2.2.2.2.2.2.2.2.2.2.2.2.2.2.1)),
        Sg.c (CV.f (FV.i IntKind.i64 d.2.2.2.2.2.2.2.2.2.2.2.2.2.2.2.2.2.2.2.2.1)),
        Sg.c (CV.f (FV.i IntKind.i64 d.2.2.2.2.2.2.2.2.2.2.2.2.2.2.2.2.2.2.2.2.2.1)),
        Sg.c (CV.f (FV.i IntKind.i64 d.2.2.2.2.2.2.2.2.2.2.2.2.2.2.2.2.2.2.2.2.2.2.1)),
        Sg.c (CV.f (FV.i IntKind.i64 d.2.2.2.2.2.2.2.2.2.2.2.2.2.2.2.2.2.2.2.2.2.2.2.1)),
        Sg.c (CV.f (FV.b d.2.2.2.2.2.2.2.2.2.2.2.2.2.2.2.2.2.2.2.2.2.2.2.2.1))],
    some
      [Sg.c (CV.f (FV.i IntKind.i64 d.2.2.2.2.2.2.2.2.2.2.2.2.2.2.2.2.2.2.2.2.2.2.2.2.2.1)),
        Sg.c (CV.f (FV.i IntKind.i64 d.2.2.2.2.2.2.2.2.2.2.2.2.2.2.2.2.2.2.2.2.2.2.2.2.2.2.1)),
        Sg.c (CV.f (FV.i IntKind.i64 d.2.2.2.2.2.2.2.2.2.2.2.2.2.2.2.2.2.2.2.2.2.2.2.2.2.2.2.1)),
        Sg.c (CV.f (FV.i IntKind.i64 d.2.2.2.2.2.2.2.2.2.2.2.2.2.2.2.2.2.2.2.2.2.2.2.2.2.2.2.2.1)),
        Sg.c (CV.f (FV.i IntKind.i64 d.2.2.2.2.2.2.2.2.2.2.2.2.2.2.2.2.2.2.2.2.2.2.2.2.2.2.2.2.2.1)),
        Sg.c (CV.f (FV.i IntKind.i64 d.2.2.2.2.2.2.2.2.2.2.2.2.2.2.2.2.2.2.2.2.2.2.2.2.2.2.2.2.2.2.1)),
        Sg.c (CV.f (FV.i IntKind.i64 d.2.2.2.2.2.2.2.2.2.2.2.2.2.2.2.2.2.2.2.2.2.2.2.2.2.2.2.2.2.2.2.1)),
        Sg.c (CV.f (FV.i IntKind.i64 d.2.2.2.2.2.2.2.2.2.2.2.2.2.2.2.2.2.2.2.2.2.2.2.2.2.2.2.2.2.2.2.2.1)),
        Sg.c (CV.f (FV.i IntKind.i64 d.2.2.2.2.2.2.2.2.2.2.2.2.2.2.2.2.2.2.2.2.2.2.2.2.2.2.2.2.2.2.2.2.2.1)),
        Sg.c (CV.f (FV.i IntKind.i64 d.2.2.2.2.2.2.2.2.2.2.2.2.2.2.2.2.2.2.2.2.2.2.2.2.2.2.2.2.2.2.2.2.2.2.1))],
    some [Sg.c (CV.f (FV.b d.2.2.2.2.2.2.2.2.2.2.2.2.2.2.2.2.2.2.2.2.2.2.2.2.2.2.2.2.2.2.2.2.2.2.2))]]
  []))) :=
  iter_loopX (emb := fun (d : Nat ×
  Bool ×
    Int ×
      Int ×
        Nat ×
          (Nat → Int) ×
            (Nat → Int) ×
              (Nat → Int) ×
                (Nat → Int) ×
                  (Nat → Int) × (Nat → Int) × (Nat → Int) × (Nat → Int) × Int × Int × Int × Int × Int × Int × Int × Int × Int × Bool × Int × Int × Int × Int × Int × Int × Int × Int × Int × Int × Bool) => St.mk
  [AV.und, AV.r (RV.c (CV.sl 0 (Off.k 0) (Sz.s d.1) 8 d.2.1)), AV.und, AV.tup [], AV.und, AV.r (RV.c (CV.ptr 1 (Off.k 0) 10)), AV.und, AV.r (RV.c (CV.ptr 2 (Off.k 0) 10)),
    AV.r (RV.c (CV.ptr 3 (Off.k 0) 1)), AV.r (RV.c (CV.f (FV.i IntKind.i64 d.2.2.1))), AV.und, AV.und, AV.und, AV.und, AV.und, AV.und, AV.und, AV.und, AV.und, AV.und, AV.und, AV.und, AV.und,
    AV.r (RV.c (CV.f (FV.i IntKind.i64 d.2.2.2.1))), AV.und, AV.und, AV.und, AV.und, AV.und, AV.und, AV.und, AV.und, AV.und, AV.und, AV.und, AV.und, AV.und, AV.und, AV.und, AV.und, AV.und,
    AV.und, AV.und, AV.und, AV.und, AV.und, AV.und, AV.und, AV.und, AV.und, AV.und, AV.und, AV.und, AV.und, AV.und, AV.und, AV.und, AV.und, AV.und, AV.und, AV.und, AV.und, AV.und, AV.und, AV.und,
    AV.und, AV.und, AV.und, AV.und, AV.und, AV.und, AV.und, AV.und, AV.und, AV.und, AV.und, AV.und, AV.und, AV.und, AV.und, AV.und, AV.und, AV.und, AV.und, AV.und, AV.und, AV.und, AV.und, AV.und,
    AV.und, AV.und, AV.und, AV.und, AV.und, AV.und, AV.und, AV.und, AV.und, AV.und, AV.und, AV.und, AV.und, AV.und, AV.und, AV.und, AV.und, AV.und, AV.und, AV.und, AV.und, AV.und, AV.und, AV.und,
    AV.und, AV.und, AV.und]
  [some
      [Sg.a (Sz.s d.2.2.2.2.1)
          [Col.i IntKind.i64 d.2.2.2.2.2.1, Col.i IntKind.i64 d.2.2.2.2.2.2.1, Col.i IntKind.i64 d.2.2.2.2.2.2.2.1,
            Col.i IntKind.i64 d.2.2.2.2.2.2.2.2.1, Col.i IntKind.i64 d.2.2.2.2.2.2.2.2.2.1, Col.i IntKind.i64 d.2.2.2.2.2.2.2.2.2.2.1,
            Col.i IntKind.i64 d.2.2.2.2.2.2.2.2.2.2.2.1, Col.i IntKind.i64 d.2.2.2.2.2.2.2.2.2.2.2.2.1]],
    some
      [Sg.c (CV.f (FV.i IntKind.i64 d.2.2.2.2.2.2.2.2.2.2.2.2.2.1)), Sg.c (CV.f (FV.i IntKind.i64 d.2.2.2.2.2.2.2.2.2.2.2.2.2.2.1)),
        Sg.c (CV.f (FV.i IntKind.i64 d.2.2.2.2.2.2.2.2.2.2.2.2.2.2.2.1)),
        Sg.c (CV.f (FV.i IntKind.i64 d.2.2.2.2.2.2.2.2.2.2.2.2.2.2.2.2.1)),
        Sg.c (CV.f (FV.i IntKind.i64 d.2.2.2.2.2.2.2.2.2.2.2.2.2.2.2.2.2.1)),
        Sg.c (CV.f (FV.i IntKind.i64 d.2.2.2.2.2.2.2.2.2.2.2.2.2.2.2.2.2.2.1)),
        Sg.c (CV.f (FV.i IntKind.i64 d.2.2.2.2.2.2.2.2.2.2.2.2.2.2.2.2.2.2.2.1)),
        Sg.c (CV.f (FV.i IntKind.i64 d.2.2.2.2.2.2.2.2.2.2.2.2.2.2.2.2.2.2.2.2.1)),
        Sg.c (CV.f (FV.i IntKind.i64 d.2.2.2.2.2.2.2.2.2.2.2.2.2.2.2.2.2.2.2.2.2.1)),
        Sg.c (CV.f (FV.b d.2.2.2.2.2.2.2.2.2.2.2.2.2.2.2.2.2.2.2.2.2.2.1))],
    some
      [Sg.c (CV.f (FV.i IntKind.i64 d.2.2.2.2.2.2.2.2.2.2.2.2.2.2.2.2.2.2.2.2.2.2.2.1)),
        Sg.c (CV.f (FV.i IntKind.i64 d.2.2.2.2.2.2.2.2.2.2.2.2.2.2.2.2.2.2.2.2.2.2.2.2.1)),
        Sg.c (CV.f (FV.i IntKind.i64 d.2.2.2.2.2.2.2.2.2.2.2.2.2.2.2.2.2.2.2.2.2.2.2.2.2.1)),
        Sg.c (CV.f (FV.i IntKind.i64 d.2.2.2.2.2.2.2.2.2.2.2.2.2.2.2.2.2.2.2.2.2.2.2.2.2.2.1)),
        Sg.c (CV.f (FV.i IntKind.i64 d.2.2.2.2.2.2.2.2.2.2.2.2.2.2.2.2.2.2.2.2.2.2.2.2.2.2.2.1)),
        Sg.c (CV.f (FV.i IntKind.i64 d.2.2.2.2.2.2.2.2.2.2.2.2.2.2.2.2.2.2.2.2.2.2.2.2.2.2.2.2.1)),
        Sg.c (CV.f (FV.i IntKind.i64 d.2.2.2.2.2.2.2.2.2.2.2.2.2.2.2.2.2.2.2.2.2.2.2.2.2.2.2.2.2.1)),
        Sg.c (CV.f (FV.i IntKind.i64 d.2.2.2.2.2.2.2.2.2.2.2.2.2.2.2.2.2.2.2.2.2.2.2.2.2.2.2.2.2.2.1)),
        Sg.c (CV.f (FV.i IntKind.i64 d.2.2.2.2.2.2.2.2.2.2.2.2.2.2.2.2.2.2.2.2.2.2.2.2.2.2.2.2.2.2.2.1)),
        Sg.c (CV.f (FV.i IntKind.i64 d.2.2.2.2.2.2.2.2.2.2.2.2.2.2.2.2.2.2.2.2.2.2.2.2.2.2.2.2.2.2.2.2.1))],
    some [Sg.c (CV.f (FV.b d.2.2.2.2.2.2.2.2.2.2.2.2.2.2.2.2.2.2.2.2.2.2.2.2.2.2.2.2.2.2.2.2.2))]]
  []) (step := fun d c x => S_astrolabelaw14_DownsPlays_0 f_astrolabelaw14_awake f_downs_New f_astrolabelaw14_own f___downs_Sampler__Put f___astrolaberef13_Sampler__Put f___downs_Sampler__Pending f_downs_Good f_astrolaberef13_Good  d.1 d.2.1 d.2.2.1 d.2.2.2.1 d.2.2.2.2.1 d.2.2.2.2.2.1 d.2.2.2.2.2.2.1 d.2.2.2.2.2.2.2.1 d.2.2.2.2.2.2.2.2.1 d.2.2.2.2.2.2.2.2.2.1 d.2.2.2.2.2.2.2.2.2.2.1 d.2.2.2.2.2.2.2.2.2.2.2.1 d.2.2.2.2.2.2.2.2.2.2.2.2.1 d.2.2.2.2.2.2.2.2.2.2.2.2.2.1 d.2.2.2.2.2.2.2.2.2.2.2.2.2.2.1 d.2.2.2.2.2.2.2.2.2.2.2.2.2.2.2.1 d.2.2.2.2.2.2.2.2.2.2.2.2.2.2.2.2.1 d.2.2.2.2.2.2.2.2.2.2.2.2.2.2.2.2.2.1 d.2.2.2.2.2.2.2.2.2.2.2.2.2.2.2.2.2.2.1 d.2.2.2.2.2.2.2.2.2.2.2.2.2.2.2.2.2.2.2.1 d.2.2.2.2.2.2.2.2.2.2.2.2.2.2.2.2.2.2.2.2.1 d.2.2.2.2.2.2.2.2.2.2.2.2.2.2.2.2.2.2.2.2.2.1 d.2.2.2.2.2.2.2.2.2.2.2.2.2.2.2.2.2.2.2.2.2.2.1 d.2.2.2.2.2.2.2.2.2.2.2.2.2.2.2.2.2.2.2.2.2.2.2.1 d.2.2.2.2.2.2.2.2.2.2.2.2.2.2.2.2.2.2.2.2.2.2.2.2.1 d.2.2.2.2.2.2.2.2.2.2.2.2.2.2.2.2.2.2.2.2.2.2.2.2.2.1 d.2.2.2.2.2.2.2.2.2.2.2.2.2.2.2.2.2.2.2.2.2.2.2.2.2.2.1 d.2.2.2.2.2.2.2.2.2.2.2.2.2.2.2.2.2.2.2.2.2.2.2.2.2.2.2.1 d.2.2.2.2.2.2.2.2.2.2.2.2.2.2.2.2.2.2.2.2.2.2.2.2.2.2.2.2.1 d.2.2.2.2.2.2.2.2.2.2.2.2.2.2.2.2.2.2.2.2.2.2.2.2.2.2.2.2.2.1 d.2.2.2.2.2.2.2.2.2.2.2.2.2.2.2.2.2.2.2.2.2.2.2.2.2.2.2.2.2.2.1 d.2.2.2.2.2.2.2.2.2.2.2.2.2.2.2.2.2.2.2.2.2.2.2.2.2.2.2.2.2.2.2.1 d.2.2.2.2.2.2.2.2.2.2.2.2.2.2.2.2.2.2.2.2.2.2.2.2.2.2.2.2.2.2.2.2.1 d.2.2.2.2.2.2.2.2.2.2.2.2.2.2.2.2.2.2.2.2.2.2.2.2.2.2.2.2.2.2.2.2.2 c x) (kx := (Sum.elim (fun d => K (AX.ret) (St.mk
  [AV.und, AV.und, AV.und, AV.und, AV.r (RV.c (CV.f (FV.b false))), AV.und, AV.und, AV.und, AV.und, AV.und, AV.und, AV.und, AV.und, AV.und, AV.und, AV.und, AV.und, AV.und, AV.und, AV.und, AV.und,
    AV.und, AV.und, AV.und, AV.und, AV.und, AV.und, AV.und, AV.und, AV.und, AV.und, AV.und, AV.und, AV.und, AV.und, AV.und, AV.und, AV.und, AV.und, AV.und, AV.und, AV.und, AV.und, AV.und, AV.und,
    AV.und, AV.und, AV.und, AV.und, AV.und, AV.und, AV.und, AV.und, AV.und, AV.und, AV.und, AV.und, AV.und, AV.und, AV.und, AV.und, AV.und, AV.und, AV.und, AV.und, AV.und, AV.und, AV.und, AV.und,
    AV.und, AV.und, AV.und, AV.und, AV.und, AV.und, AV.und, AV.und, AV.und, AV.und, AV.und, AV.und, AV.und, AV.und, AV.und, AV.und, AV.und, AV.und, AV.und, AV.und, AV.und, AV.und, AV.und, AV.und,
    AV.und, AV.und, AV.und, AV.und, AV.und, AV.und, AV.und, AV.und, AV.und, AV.und, AV.und, AV.und, AV.und, AV.und, AV.und, AV.und, AV.und, AV.und, AV.und, AV.und, AV.und, AV.und, AV.und]
  [some
      [Sg.a (Sz.s d.1)
          [Col.i IntKind.i64 d.2.1, Col.i IntKind.i64 d.2.2.1, Col.i IntKind.i64 d.2.2.2.1, Col.i IntKind.i64 d.2.2.2.2.1, Col.i IntKind.i64 d.2.2.2.2.2.1,
            Col.i IntKind.i64 d.2.2.2.2.2.2.1, Col.i IntKind.i64 d.2.2.2.2.2.2.2.1, Col.i IntKind.i64 d.2.2.2.2.2.2.2.2]]]
  [])) (fun d => K (AX.ex 0) (St.mk
  [AV.und, AV.r (RV.c (CV.sl 0 (Off.k 0) (Sz.s d.1) 8 d.2.1)), AV.und, AV.tup [], AV.und, AV.r (RV.c (CV.ptr 1 (Off.k 0) 10)), AV.und, AV.r (RV.c (CV.ptr 2 (Off.k 0) 10)),
    AV.r (RV.c (CV.ptr 3 (Off.k 0) 1)), AV.r (RV.c (CV.f (FV.i IntKind.i64 d.2.2.1))), AV.und, AV.und, AV.und, AV.und, AV.und, AV.und, AV.und, AV.und, AV.und, AV.und, AV.und, AV.und, AV.und,
    AV.r (RV.c (CV.f (FV.i IntKind.i64 d.2.2.2.1))), AV.und, AV.und, AV.und, AV.und, AV.und, AV.und, AV.und, AV.und, AV.und, AV.und, AV.und, AV.und, AV.und, AV.und, AV.und, AV.und, AV.und,
    AV.und, AV.und, AV.und, AV.und, AV.und, AV.und, AV.und, AV.r (RV.c (CV.f (FV.i IntKind.i64 d.2.2.1))), AV.r (RV.c (CV.sl 0 (Off.k 0) (Sz.s d.1) 8 d.2.1)),
    AV.r (RV.c (CV.f (FV.i IntKind.i64 d.2.2.2.2.1))), AV.r (RV.c (CV.f (FV.b d.2.2.2.2.2.1))), AV.und, AV.und, AV.und, AV.und, AV.und, AV.und, AV.und, AV.und, AV.und, AV.und,
    AV.und, AV.und, AV.und, AV.und, AV.und, AV.und, AV.und, AV.und, AV.und, AV.und, AV.und, AV.und, AV.und, AV.und, AV.und, AV.und, AV.und, AV.und, AV.und, AV.und, AV.und, AV.und, AV.und, AV.und,
    AV.und, AV.und, AV.und, AV.und, AV.und, AV.und, AV.und, AV.und, AV.und, AV.und, AV.und, AV.und, AV.und, AV.und, AV.und, AV.und, AV.und, AV.und, AV.und, AV.und, AV.und, AV.und, AV.und, AV.und,
    AV.und, AV.und, AV.und, AV.und, AV.und, AV.und]
  [some
      [Sg.a (Sz.s d.2.2.2.2.2.2.1)
          [Col.i IntKind.i64 d.2.2.2.2.2.2.2.1, Col.i IntKind.i64 d.2.2.2.2.2.2.2.2.1, Col.i IntKind.i64 d.2.2.2.2.2.2.2.2.2.1,
            Col.i IntKind.i64 d.2.2.2.2.2.2.2.2.2.2.1, Col.i IntKind.i64 d.2.2.2.2.2.2.2.2.2.2.2.1,
            Col.i IntKind.i64 d.2.2.2.2.2.2.2.2.2.2.2.2.1, Col.i IntKind.i64 d.2.2.2.2.2.2.2.2.2.2.2.2.2.1,
            Col.i IntKind.i64 d.2.2.2.2.2.2.2.2.2.2.2.2.2.2.1]],
    some
      [Sg.c (CV.f (FV.i IntKind.i64 d.2.2.2.2.2.2.2.2.2.2.2.2.2.2.2.1)),
        Sg.c (CV.f (FV.i IntKind.i64 d.2.2.2.2.2.2.2.2.2.2.2.2.2.2.2.2.1)),
        Sg.c (CV.f (FV.i IntKind.i64 d.2.2.2.2.2.2.2.2.2.2.2.2.2.2.2.2.2.1)),
        Sg.c (CV.f (FV.i IntKind.i64 d.2.2.2.2.2.2.2.2.2.2.2.2.2.2.2.2.2.2.1)),
        Sg.c (CV.f (FV.i IntKind.i64 d.2.2.2.2.2.2.2.2.2.2.2.2.2.2.2.2.2.2.2.1)),
        Sg.c (CV.f (FV.i IntKind.i64 d.2.2.2.2.2.2.2.2.2.2.2.2.2.2.2.2.2.2.2.2.1)),
        Sg.c (CV.f (FV.i IntKind.i64 d.2.2.2.2.2.2.2.2.2.2.2.2.2.2.2.2.2.2.2.2.2.1)),
        Sg.c (CV.f (FV.i IntKind.i64 d.2.2.2.2.2.2.2.2.2.2.2.2.2.2.2.2.2.2.2.2.2.2.1)),
        Sg.c (CV.f (FV.i IntKind.i64 d.2.2.2.2.2.2.2.2.2.2.2.2.2.2.2.2.2.2.2.2.2.2.2.1)),
        Sg.c (CV.f (FV.b d.2.2.2.2.2.2.2.2.2.2.2.2.2.2.2.2.2.2.2.2.2.2.2.2.1))],
    some
      [Sg.c (CV.f (FV.i IntKind.i64 d.2.2.2.2.2.2.2.2.2.2.2.2.2.2.2.2.2.2.2.2.2.2.2.2.2.1)),
        Sg.c (CV.f (FV.i IntKind.i64 d.2.2.2.2.2.2.2.2.2.2.2.2.2.2.2.2.2.2.2.2.2.2.2.2.2.2.1)),
        Sg.c (CV.f (FV.i IntKind.i64 d.2.2.2.2.2.2.2.2.2.2.2.2.2.2.2.2.2.2.2.2.2.2.2.2.2.2.2.1)),
        Sg.c (CV.f (FV.i IntKind.i64 d.2.2.2.2.2.2.2.2.2.2.2.2.2.2.2.2.2.2.2.2.2.2.2.2.2.2.2.2.1)),
        Sg.c (CV.f (FV.i IntKind.i64 d.2.2.2.2.2.2.2.2.2.2.2.2.2.2.2.2.2.2.2.2.2.2.2.2.2.2.2.2.2.1)),
        Sg.c (CV.f (FV.i IntKind.i64 d.2.2.2.2.2.2.2.2.2.2.2.2.2.2.2.2.2.2.2.2.2.2.2.2.2.2.2.2.2.2.1)),
        Sg.c (CV.f (FV.i IntKind.i64 d.2.2.2.2.2.2.2.2.2.2.2.2.2.2.2.2.2.2.2.2.2.2.2.2.2.2.2.2.2.2.2.1)),
        Sg.c (CV.f (FV.i IntKind.i64 d.2.2.2.2.2.2.2.2.2.2.2.2.2.2.2.2.2.2.2.2.2.2.2.2.2.2.2.2.2.2.2.2.1)),
        Sg.c (CV.f (FV.i IntKind.i64 d.2.2.2.2.2.2.2.2.2.2.2.2.2.2.2.2.2.2.2.2.2.2.2.2.2.2.2.2.2.2.2.2.2.1)),
        Sg.c (CV.f (FV.i IntKind.i64 d.2.2.2.2.2.2.2.2.2.2.2.2.2.2.2.2.2.2.2.2.2.2.2.2.2.2.2.2.2.2.2.2.2.2.1))],
    some [Sg.c (CV.f (FV.b d.2.2.2.2.2.2.2.2.2.2.2.2.2.2.2.2.2.2.2.2.2.2.2.2.2.2.2.2.2.2.2.2.2.2.2))]]
  []))))
    (fun d c => ds_astrolabelaw14_DownsPlays_0 f_astrolabelaw14_awake f_downs_New f_astrolabelaw14_own f___downs_Sampler__Put f___astrolaberef13_Sampler__Put f___downs_Sampler__Pending f_downs_Good f_astrolaberef13_Good (@L_astrolabelaw14_DownsPlays_0) d.1 d.2.1 d.2.2.1 d.2.2.2.1 d.2.2.2.2.1 d.2.2.2.2.2.1 d.2.2.2.2.2.2.1 d.2.2.2.2.2.2.2.1 d.2.2.2.2.2.2.2.2.1 d.2.2.2.2.2.2.2.2.2.1 d.2.2.2.2.2.2.2.2.2.2.1 d.2.2.2.2.2.2.2.2.2.2.2.1 d.2.2.2.2.2.2.2.2.2.2.2.2.1 d.2.2.2.2.2.2.2.2.2.2.2.2.2.1 d.2.2.2.2.2.2.2.2.2.2.2.2.2.2.1 d.2.2.2.2.2.2.2.2.2.2.2.2.2.2.2.1 d.2.2.2.2.2.2.2.2.2.2.2.2.2.2.2.2.1 d.2.2.2.2.2.2.2.2.2.2.2.2.2.2.2.2.2.1 d.2.2.2.2.2.2.2.2.2.2.2.2.2.2.2.2.2.2.1 d.2.2.2.2.2.2.2.2.2.2.2.2.2.2.2.2.2.2.2.1 d.2.2.2.2.2.2.2.2.2.2.2.2.2.2.2.2.2.2.2.2.1 d.2.2.2.2.2.2.2.2.2.2.2.2.2.2.2.2.2.2.2.2.2.1 d.2.2.2.2.2.2.2.2.2.2.2.2.2.2.2.2.2.2.2.2.2.2.1 d.2.2.2.2.2.2.2.2.2.2.2.2.2.2.2.2.2.2.2.2.2.2.2.1 d.2.2.2.2.2.2.2.2.2.2.2.2.2.2.2.2.2.2.2.2.2.2.2.2.1 d.2.2.2.2.2.2.2.2.2.2.2.2.2.2.2.2.2.2.2.2.2.2.2.2.2.1 d.2.2.2.2.2.2.2.2.2.2.2.2.2.2.2.2.2.2.2.2.2.2.2.2.2.2.1 d.2.2.2.2.2.2.2.2.2.2.2.2.2.2.2.2.2.2.2.2.2.2.2.2.2.2.2.1 d.2.2.2.2.2.2.2.2.2.2.2.2.2.2.2.2.2.2.2.2.2.2.2.2.2.2.2.2.1 d.2.2.2.2.2.2.2.2.2.2.2.2.2.2.2.2.2.2.2.2.2.2.2.2.2.2.2.2.2.1 d.2.2.2.2.2.2.2.2.2.2.2.2.2.2.2.2.2.2.2.2.2.2.2.2.2.2.2.2.2.2.1 d.2.2.2.2.2.2.2.2.2.2.2.2.2.2.2.2.2.2.2.2.2.2.2.2.2.2.2.2.2.2.2.1 d.2.2.2.2.2.2.2.2.2.2.2.2.2.2.2.2.2.2.2.2.2.2.2.2.2.2.2.2.2.2.2.2.1 d.2.2.2.2.2.2.2.2.2.2.2.2.2.2.2.2.2.2.2.2.2.2.2.2.2.2.2.2.2.2.2.2.2 c K) 200 (x0, x1, x2, x3, x4, x5, x6, x7, x8, x9, x10, x11, x12, x13, x14, x15, x16, x17, x18, x19, x20, x21, x22, x23, x24, x25, x26, x27, x28, x29, x30, x31, x32, x33)
theorem so_astrolabelaw14_DownsPlays_0 : ∀ kk, SumOK Try.prog (envOf [(30, F_astrolabelaw14_awake f_astrolabelaw14_awake), (31, F_downs_New f_downs_New), (36, F_astrolabelaw14_own f_astrolabelaw14_own), (32, F___downs_Sampler__Put f___downs_Sampler__Put), (37, F___astrolaberef13_Sampler__Put f___astrolaberef13_Sampler__Put), (35, F___downs_Sampler__Pending f___downs_Sampler__Pending), (34, F_downs_Good f_downs_Good), (38, F_astrolaberef13_Good f_astrolaberef13_Good)]) ⟨[⟨11, [0, 2, 4, 6, 10, 11, 12, 13, 14, 15, 16, 17, 18, 19, 20, 21, 22, 24, 25, 26, 27, 28, 29, 30, 31, 32, 33, 34, 35, 36, 37, 38, 39, 40, 41, 42, 43, 44, 45, 46, 47, 48, 49, 50, 51, 52, 53, 54, 55, 56, 57, 58, 59, 60, 61, 62, 63, 64, 65, 66, 67, 68, 69, 70, 71, 72, 73, 74, 75, 76, 77, 78, 82, 83, 87, 88, 97, 98, 110, 111, 112, 113, 114, 115, 79, 80, 81, 84, 85, 86, 89, 90, 91, 92, 93, 94, 95, 96, 99, 100, 101, 102, 103, 104, 105, 106, 107, 108, 109], []⟩], [⟨11, 1, @R_astrolabelaw14_DownsPlays_0 (@L_astrolabelaw14_DownsPlays_0)⟩], [], [], (some ⟨0, [0, 1, 2, 3, 5, 6, 7, 8, 9, 10, 11, 12, 13, 14, 15, 16, 17, 18, 19, 20, 21, 22, 23, 24, 25, 26, 27, 28, 29, 30, 31, 32, 33, 34, 35, 36, 37, 38, 39, 40, 41, 42, 43, 44, 45, 46, 47, 48, 49, 50, 51, 52, 53, 54, 55, 56, 57, 58, 59, 60, 61, 62, 63, 64, 65, 66, 67, 68, 69, 70, 71, 72, 73, 74, 75, 76, 77, 78, 79, 80, 81, 82, 83, 84, 85, 86, 87, 88, 89, 90, 91, 92, 93, 94, 95, 96, 97, 98, 99, 100, 101, 102, 103, 104, 105, 106, 107, 108, 109, 110, 111, 112, 113, 114, 115], []⟩)⟩ (tmpsOf Try.prog 8) kk 200 (loopIn Try.prog 8 11) :=
  SumOK.of (id := 11) (k0 := 1) (run := @R_astrolabelaw14_DownsPlays_0 (@L_astrolabelaw14_DownsPlays_0)) (by kernel_rfl) fun s K r hr => by
    unfold R_astrolabelaw14_DownsPlays_0 at hr
    obtain ⟨b, hb, hr1⟩ := Option.bind_eq_some_iff.1 hr
    have e := ((Q_astrolabelaw14_DownsPlays_0).ok s b hb).trans (q_astrolabelaw14_DownsPlays_0 b)
    subst e
    exact ⟨200, (it_astrolabelaw14_DownsPlays_0 b.1.2.1.2.2.1 b.1.2.1.2.2.2.2 b.1.2.2.2.2.2.2.2.2.2.1 b.1.2.2.2.2.2.2.2.2.2.2.2.2.2.2.2.2.2.2.2.2.2.2.2.1 b.2.1.1.1.1 b.2.1.1.1.2.1 b.2.1.1.1.2.2.1 b.2.1.1.1.2.2.2.1 b.2.1.1.1.2.2.2.2.1 b.2.1.1.1.2.2.2.2.2.1 b.2.1.1.1.2.2.2.2.2.2.1 b.2.1.1.1.2.2.2.2.2.2.2.1 b.2.1.1.1.2.2.2.2.2.2.2.2.1 b.2.1.2.1.1 b.2.1.2.1.2.1 b.2.1.2.1.2.2.1 b.2.1.2.1.2.2.2.1 b.2.1.2.1.2.2.2.2.1 b.2.1.2.1.2.2.2.2.2.1 b.2.1.2.1.2.2.2.2.2.2.1 b.2.1.2.1.2.2.2.2.2.2.2.1 b.2.1.2.1.2.2.2.2.2.2.2.2.1 b.2.1.2.1.2.2.2.2.2.2.2.2.2.1 b.2.1.2.2.1.1 b.2.1.2.2.1.2.1 b.2.1.2.2.1.2.2.1 b.2.1.2.2.1.2.2.2.1 b.2.1.2.2.1.2.2.2.2.1 b.2.1.2.2.1.2.2.2.2.2.1 b.2.1.2.2.1.2.2.2.2.2.2.1 b.2.1.2.2.1.2.2.2.2.2.2.2.1 b.2.1.2.2.1.2.2.2.2.2.2.2.2.1 b.2.1.2.2.1.2.2.2.2.2.2.2.2.2.1 b.2.1.2.2.2.1.1 K).trans hr1⟩
def K_astrolabelaw14_DownsPlays {ρ : Type} (g_astrolabelaw14_awake : Option Bool) (g_downs_New : Int → Option (Unit ⊕ Int)) (g_astrolabelaw14_own : Int → Option Int) (g___downs_Sampler__Put : Int →
  Int →
    Int →
      Int →
        Int →
          Int →
            Int →
              Int →
                Int →
                  Int →
                    Int →
                      Int →
                        Int →
                          Int → Int → Int → Int → Bool → Bool → Option (Int × Int × Int × Int × Int × Int × Int × Int × Bool × Int × Int × Int × Int × Int × Int × Int × Int × Int × Int × Bool × Bool)) (g___astrolaberef13_Sampler__Put : Int →
  Int →
    Int →
      Int →
        Int →
          Int →
            Int →
              Int →
                Int →
                  Int → Int → Int → Int → Int → Int → Int → Int → Int → Option (Int × Int × Int × Int × Int × Int × Int × Int × Bool × Int × Int × Int × Int × Int × Int × Int × Int × Int × Int × Int)) (g___downs_Sampler__Pending : Int → Int → Int → Int → Int → Int → Int → Int → Int → Bool → Option Int) (g_downs_Good : Int → Int → Int → Int → Int → Int → Int → Int → Option Bool) (g_astrolaberef13_Good : Int → Int → Int → Int → Int → Int → Int → Int → Option Bool) (l_0 : ∀ {ρ : Type}, (Nat ×
  Bool ×
    Int ×
      Int ×
        Nat ×
          (Nat → Int) ×
            (Nat → Int) ×
              (Nat → Int) ×
                (Nat → Int) ×
                  (Nat → Int) × (Nat → Int) × (Nat → Int) × (Nat → Int) × Int × Int × Int × Int × Int × Int × Int × Int × Int × Bool × Int × Int × Int × Int × Int × Int × Int × Int × Int × Int × Bool) → ((Nat × (Nat → Int) × (Nat → Int) × (Nat → Int) × (Nat → Int) × (Nat → Int) × (Nat → Int) × (Nat → Int) × (Nat → Int) ⊕
  Nat ×
    Bool ×
      Int ×
        Int ×
          Int ×
            Bool ×
              Nat ×
                (Nat → Int) ×
                  (Nat → Int) ×
                    (Nat → Int) ×
                      (Nat → Int) ×
                        (Nat → Int) ×
                          (Nat → Int) × (Nat → Int) × (Nat → Int) × Int × Int × Int × Int × Int × Int × Int × Int × Int × Bool × Int × Int × Int × Int × Int × Int × Int × Int × Int × Int × Bool) → Option ρ) → Option ρ) (x0 : Int) (x1 : Nat) (x2 : Nat → Int) (x3 : Nat → Int) (x4 : Nat → Int) (x5 : Nat → Int) (x6 : Nat → Int) (x7 : Nat → Int) (x8 : Nat → Int) (x9 : Nat → Int) (w0 : Bool) (k : (Bool) → Option ρ) : Option ρ :=
  Option.bind g_astrolabelaw14_awake fun (d : Bool) =>
    bif !d then k false
    else
      Option.bind (g_downs_New x0) fun (d : Unit ⊕ Int) =>
        bif
            match d with
            | Sum.inl val => true
            | Sum.inr val => false then
          Option.bind
            (match d with
            | Sum.inl a => some a
            | Sum.inr val => none)
            fun (d : Unit) => bif decide (x0 < 1000) then k true else bif decide (x0 > 100000) then k true else k false
        else
          Option.bind
            (match d with
            | Sum.inr b => some b
            | Sum.inl val => none)
            fun (d : Int) =>
            bif decide (x0 < 1000) then k false
            else
              bif decide (x0 > 100000) then k false
              else
                bif decide (Int.ofNat x1 > 100) then k true
                else
                  Option.bind (g_astrolabelaw14_own x0) fun (d_1 : Int) =>
                    l_0 (x1, w0, 0, x0, x1, x2, x3, x4, x5, x6, x7, x8, x9, d, 0, 0, 0, 0, 0, 0, 0, 0, false, d_1, -1, 0, 0, 0, 0, 0, 0, 0, 0, false)
                      (Sum.elim (fun (d : Nat × (Nat → Int) × (Nat → Int) × (Nat → Int) × (Nat → Int) × (Nat → Int) × (Nat → Int) × (Nat → Int) × (Nat → Int)) => k false)
                        fun
                          (d :
                            Nat ×
                              Bool ×
                                Int ×
                                  Int ×
                                    Int ×
                                      Bool ×
                                        Nat ×
                                          (Nat → Int) ×
                                            (Nat → Int) ×
                                              (Nat → Int) ×
                                                (Nat → Int) ×
                                                  (Nat → Int) ×
                                                    (Nat → Int) ×
                                                      (Nat → Int) ×
                                                        (Nat → Int) × Int × Int × Int × Int × Int × Int × Int × Int × Int × Bool × Int × Int × Int × Int × Int × Int × Int × Int × Int × Int × Bool) =>
                        k !d.2.2.2.2.2.2.2.2.2.2.2.2.2.2.2.2.2.2.2.2.2.2.2.2.2.2.2.2.2.2.2.2.2.2.2)
def f_astrolabelaw14_DownsPlays (x0 : Int) (x1 : Nat) (x2 : Nat → Int) (x3 : Nat → Int) (x4 : Nat → Int) (x5 : Nat → Int) (x6 : Nat → Int) (x7 : Nat → Int) (x8 : Nat → Int) (x9 : Nat → Int) (w0 : Bool) : Option (Bool) := K_astrolabelaw14_DownsPlays f_astrolabelaw14_awake f_downs_New f_astrolabelaw14_own f___downs_Sampler__Put f___astrolaberef13_Sampler__Put f___downs_Sampler__Pending f_downs_Good f_astrolaberef13_Good (@L_astrolabelaw14_DownsPlays_0) x0 x1 x2 x3 x4 x5 x6 x7 x8 x9 w0 some
section
open Go.Ab.Rdr
def QA_astrolabelaw14_DownsPlays := ((pair (cons (ar (rc (cf (fi .i64 hole)))) (cons (ar (rc (csl (nat 0) (ok' (nat 0)) (szs hole) (nat 8) hole))) nil)) (cons (cons (ga (szs hole) (cons (ki .i64 hole) (cons (ki .i64 hole) (cons (ki .i64 hole) (cons (ki .i64 hole) (cons (ki .i64 hole) (cons (ki .i64 hole) (cons (ki .i64 hole) (cons (ki .i64 hole) nil))))))))) nil) nil)) : Rdr (List AV × List Blk) _)
end
def F0_astrolabelaw14_DownsPlays (f : (Int) → (Nat) → (Nat → Int) → (Nat → Int) → (Nat → Int) → (Nat → Int) → (Nat → Int) → (Nat → Int) → (Nat → Int) → (Nat → Int) → (Bool) → Option (Bool)) : Sem1 := fun args h => match (QA_astrolabelaw14_DownsPlays).rd (args, h) with
  | some b => .test (Nat.beq b.2.1.1.1 b.1.2.1.2.2.1) (.opt (f b.1.1 b.1.2.1.2.2.1 b.2.1.1.2.1 b.2.1.1.2.2.1 b.2.1.1.2.2.2.1 b.2.1.1.2.2.2.2.1 b.2.1.1.2.2.2.2.2.1 b.2.1.1.2.2.2.2.2.2.1 b.2.1.1.2.2.2.2.2.2.2.1 b.2.1.1.2.2.2.2.2.2.2.2.1 b.1.2.1.2.2.2.2) fun (d : Bool) => .leaf (Res.mk (AV.r (RV.c (CV.f (FV.b d)))) [Ch.keep] [])) .fail
  | none => .fail
def F_astrolabelaw14_DownsPlays (f : (Int) → (Nat) → (Nat → Int) → (Nat → Int) → (Nat → Int) → (Nat → Int) → (Nat → Int) → (Nat → Int) → (Nat → Int) → (Nat → Int) → (Bool) → Option (Bool)) : Sem1 := (nilF 1 [.i .i64, .i .i64, .i .i64, .i .i64, .i .i64, .i .i64, .i .i64, .i .i64] (F0_astrolabelaw14_DownsPlays f))
theorem d_astrolabelaw14_DownsPlays (g_astrolabelaw14_awake : Option Bool) (g_downs_New : Int → Option (Unit ⊕ Int)) (g_astrolabelaw14_own : Int → Option Int) (g___downs_Sampler__Put : Int →
  Int →
    Int →
      Int →
        Int →
          Int →
            Int →
              Int →
                Int →
                  Int →
                    Int →
                      Int →
                        Int →
                          Int → Int → Int → Int → Bool → Bool → Option (Int × Int × Int × Int × Int × Int × Int × Int × Bool × Int × Int × Int × Int × Int × Int × Int × Int × Int × Int × Bool × Bool)) (g___astrolaberef13_Sampler__Put : Int →
  Int →
    Int →
      Int →
        Int →
          Int →
            Int →
              Int →
                Int →
                  Int → Int → Int → Int → Int → Int → Int → Int → Int → Option (Int × Int × Int × Int × Int × Int × Int × Int × Bool × Int × Int × Int × Int × Int × Int × Int × Int × Int × Int × Int)) (g___downs_Sampler__Pending : Int → Int → Int → Int → Int → Int → Int → Int → Int → Bool → Option Int) (g_downs_Good : Int → Int → Int → Int → Int → Int → Int → Int → Option Bool) (g_astrolaberef13_Good : Int → Int → Int → Int → Int → Int → Int → Int → Option Bool) (l_0 : ∀ {ρ : Type}, (Nat ×
  Bool ×
    Int ×
      Int ×
        Nat ×
          (Nat → Int) ×
            (Nat → Int) ×
              (Nat → Int) ×
                (Nat → Int) ×
                  (Nat → Int) × (Nat → Int) × (Nat → Int) × (Nat → Int) × Int × Int × Int × Int × Int × Int × Int × Int × Int × Bool × Int × Int × Int × Int × Int × Int × Int × Int × Int × Int × Bool) → ((Nat × (Nat → Int) × (Nat → Int) × (Nat → Int) × (Nat → Int) × (Nat → Int) × (Nat → Int) × (Nat → Int) × (Nat → Int) ⊕
  Nat ×
    Bool ×
      Int ×
        Int ×
          Int ×
            Bool ×
              Nat ×
                (Nat → Int) ×
                  (Nat → Int) ×
                    (Nat → Int) ×
                      (Nat → Int) ×
                        (Nat → Int) ×
                          (Nat → Int) × (Nat → Int) × (Nat → Int) × Int × Int × Int × Int × Int × Int × Int × Int × Int × Bool × Int × Int × Int × Int × Int × Int × Int × Int × Int × Int × Bool) → Option ρ) → Option ρ) (x0 : Int) (x1 : Nat) (x2 : Nat → Int) (x3 : Nat → Int) (x4 : Nat → Int) (x5 : Nat → Int) (x6 : Nat → Int) (x7 : Nat → Int) (x8 : Nat → Int) (x9 : Nat → Int) (w0 : Bool) : den Try.prog (envOf [(30, F_astrolabelaw14_awake g_astrolabelaw14_awake), (31, F_downs_New g_downs_New), (36, F_astrolabelaw14_own g_astrolabelaw14_own), (32, F___downs_Sampler__Put g___downs_Sampler__Put), (37, F___astrolaberef13_Sampler__Put g___astrolaberef13_Sampler__Put), (35, F___downs_Sampler__Pending g___downs_Sampler__Pending), (34, F_downs_Good g_downs_Good), (38, F_astrolaberef13_Good g_astrolaberef13_Good)]) ⟨[⟨11, [0, 2, 4, 6, 10, 11, 12, 13, 14, 15, 16, 17, 18, 19, 20, 21, 22, 24, 25, 26, 27, 28, 29, 30, 31, 32, 33, 34, 35, 36, 37, 38, 39, 40, 41, 42, 43, 44, 45, 46, 47, 48, 49, 50, 51, 52, 53, 54, 55, 56, 57, 58, 59, 60, 61, 62, 63, 64, 65, 66, 67, 68, 69, 70, 71, 72, 73, 74, 75, 76, 77, 78, 82, 83, 87, 88, 97, 98, 110, 111, 112, 113, 114, 115, 79, 80, 81, 84, 85, 86, 89, 90, 91, 92, 93, 94, 95, 96, 99, 100, 101, 102, 103, 104, 105, 106, 107, 108, 109], []⟩], [⟨11, 1, @R_astrolabelaw14_DownsPlays_0 (@l_0)⟩], [], [], (some ⟨0, [0, 1, 2, 3, 5, 6, 7, 8, 9, 10, 11, 12, 13, 14, 15, 16, 17, 18, 19, 20, 21, 22, 23, 24, 25, 26, 27, 28, 29, 30, 31, 32, 33, 34, 35, 36, 37, 38, 39, 40, 41, 42, 43, 44, 45, 46, 47, 48, 49, 50, 51, 52, 53, 54, 55, 56, 57, 58, 59, 60, 61, 62, 63, 64, 65, 66, 67, 68, 69, 70, 71, 72, 73, 74, 75, 76, 77, 78, 79, 80, 81, 82, 83, 84, 85, 86, 87, 88, 89, 90, 91, 92, 93, 94, 95, 96, 97, 98, 99, 100, 101, 102, 103, 104, 105, 106, 107, 108, 109, 110, 111, 112, 113, 114, 115], []⟩)⟩ 200 8 [.r (.c (.f (.i .i64 x0))), .r (.c (.sl 0 (.k 0) (.s x1) 8 w0))] [[.a (.s x1) [.i .i64 x2, .i .i64 x3, .i .i64 x4, .i .i64 x5, .i .i64 x6, .i .i64 x7, .i .i64 x8, .i .i64 x9]]] =
    K_astrolabelaw14_DownsPlays g_astrolabelaw14_awake g_downs_New g_astrolabelaw14_own g___downs_Sampler__Put g___astrolaberef13_Sampler__Put g___downs_Sampler__Pending g_downs_Good g_astrolaberef13_Good (@l_0) x0 x1 x2 x3 x4 x5 x6 x7 x8 x9 w0 (fun (d : Bool) => some (Res.mk (AV.r (RV.c (CV.f (FV.b d)))) [Ch.keep] [])) := by kernel_rfl
theorem m_astrolabelaw14_DownsPlays {ρ σ : Type} (q : ρ → Option σ) (g_astrolabelaw14_awake : Option Bool) (g_downs_New : Int → Option (Unit ⊕ Int)) (g_astrolabelaw14_own : Int → Option Int) (g___downs_Sampler__Put : Int →
  Int →
    Int →
      Int →
        Int →
          Int →
            Int →
              Int →
                Int →
                  Int →
                    Int →
                      Int →
                        Int →
                          Int → Int → Int → Int → Bool → Bool → Option (Int × Int × Int × Int × Int × Int × Int × Int × Bool × Int × Int × Int × Int × Int × Int × Int × Int × Int × Int × Bool × Bool)) (g___astrolaberef13_Sampler__Put : Int →
  Int →
    Int →
      Int →
        Int →
          Int →
            Int →
              Int →
                Int →
                  Int → Int → Int → Int → Int → Int → Int → Int → Int → Option (Int × Int × Int × Int × Int × Int × Int × Int × Bool × Int × Int × Int × Int × Int × Int × Int × Int × Int × Int × Int)) (g___downs_Sampler__Pending : Int → Int → Int → Int → Int → Int → Int → Int → Int → Bool → Option Int) (g_downs_Good : Int → Int → Int → Int → Int → Int → Int → Int → Option Bool) (g_astrolaberef13_Good : Int → Int → Int → Int → Int → Int → Int → Int → Option Bool) (l_0 : ∀ {ρ : Type}, (Nat ×
  Bool ×
    Int ×
      Int ×
        Nat ×
          (Nat → Int) ×
            (Nat → Int) ×
              (Nat → Int) ×
                (Nat → Int) ×
                  (Nat → Int) × (Nat → Int) × (Nat → Int) × (Nat → Int) × Int × Int × Int × Int × Int × Int × Int × Int × Int × Bool × Int × Int × Int × Int × Int × Int × Int × Int × Int × Int × Bool) → ((Nat × (Nat → Int) × (Nat → Int) × (Nat → Int) × (Nat → Int) × (Nat → Int) × (Nat → Int) × (Nat → Int) × (Nat → Int) ⊕
  Nat ×
    Bool ×
      Int ×
        Int ×
          Int ×
            Bool ×
              Nat ×
                (Nat → Int) ×
                  (Nat → Int) ×
                    (Nat → Int) ×
                      (Nat → Int) ×
                        (Nat → Int) ×
                          (Nat → Int) × (Nat → Int) × (Nat → Int) × Int × Int × Int × Int × Int × Int × Int × Int × Int × Bool × Int × Int × Int × Int × Int × Int × Int × Int × Int × Int × Bool) → Option ρ) → Option ρ) (hl_0 : ∀ {ρ σ : Type} (q : ρ → Option σ) (d : Nat ×
  Bool ×
    Int ×
      Int ×
        Nat ×
          (Nat → Int) ×
            (Nat → Int) ×
              (Nat → Int) ×
                (Nat → Int) ×
                  (Nat → Int) × (Nat → Int) × (Nat → Int) × (Nat → Int) × Int × Int × Int × Int × Int × Int × Int × Int × Int × Bool × Int × Int × Int × Int × Int × Int × Int × Int × Int × Int × Bool) (k : (Nat × (Nat → Int) × (Nat → Int) × (Nat → Int) × (Nat → Int) × (Nat → Int) × (Nat → Int) × (Nat → Int) × (Nat → Int) ⊕
  Nat ×
    Bool ×
      Int ×
        Int ×
          Int ×
            Bool ×
              Nat ×
                (Nat → Int) ×
                  (Nat → Int) ×
                    (Nat → Int) ×
                      (Nat → Int) ×
                        (Nat → Int) ×
                          (Nat → Int) × (Nat → Int) × (Nat → Int) × Int × Int × Int × Int × Int × Int × Int × Int × Int × Bool × Int × Int × Int × Int × Int × Int × Int × Int × Int × Int × Bool) → Option ρ), (l_0 d k).bind q = l_0 d fun x => (k x).bind q) (x0 : Int) (x1 : Nat) (x2 : Nat → Int) (x3 : Nat → Int) (x4 : Nat → Int) (x5 : Nat → Int) (x6 : Nat → Int) (x7 : Nat → Int) (x8 : Nat → Int) (x9 : Nat → Int) (w0 : Bool) (k : (Bool) → Option ρ) : (K_astrolabelaw14_DownsPlays g_astrolabelaw14_awake g_downs_New g_astrolabelaw14_own g___downs_Sampler__Put g___astrolaberef13_Sampler__Put g___downs_Sampler__Pending g_downs_Good g_astrolaberef13_Good (@l_0) x0 x1 x2 x3 x4 x5 x6 x7 x8 x9 w0 k).bind q = K_astrolabelaw14_DownsPlays g_astrolabelaw14_awake g_downs_New g_astrolabelaw14_own g___downs_Sampler__Put g___astrolaberef13_Sampler__Put g___downs_Sampler__Pending g_downs_Good g_astrolaberef13_Good (@l_0) x0 x1 x2 x3 x4 x5 x6 x7 x8 x9 w0 (fun d => (k d).bind q) := by
  simp only [K_astrolabelaw14_DownsPlays, bnd_cond, bnd_bind, bnd_none, bnd_sum, hl_0]
theorem qa_astrolabelaw14_DownsPlays : ∀ b, (QA_astrolabelaw14_DownsPlays).em b = ([.r (.c (.f (.i .i64 b.1.1))), .r (.c (.sl 0 (.k 0) (.s b.1.2.1.2.2.1) 8 b.1.2.1.2.2.2.2))], [[.a (.s b.2.1.1.1) [.i .i64 b.2.1.1.2.1, .i .i64 b.2.1.1.2.2.1, .i .i64 b.2.1.1.2.2.2.1, .i .i64 b.2.1.1.2.2.2.2.1, .i .i64 b.2.1.1.2.2.2.2.2.1, .i .i64 b.2.1.1.2.2.2.2.2.2.1, .i .i64 b.2.1.1.2.2.2.2.2.2.2.1, .i .i64 b.2.1.1.2.2.2.2.2.2.2.2.1]]]) := fun b => by kernel_rfl
theorem e_astrolabelaw14_DownsPlays {f : (Int) → (Nat) → (Nat → Int) → (Nat → Int) → (Nat → Int) → (Nat → Int) → (Nat → Int) → (Nat → Int) → (Nat → Int) → (Nat → Int) → (Bool) → Option (Bool)} {args : List AV} {h : List Blk} {r : Res} (hr : (F0_astrolabelaw14_DownsPlays f args h).eval = some r) : ∃ x0 x1 x2 x3 x4 x5 x6 x7 x8 x9 w0, args = [.r (.c (.f (.i .i64 x0))), .r (.c (.sl 0 (.k 0) (.s x1) 8 w0))] ∧ h = [[.a (.s x1) [.i .i64 x2, .i .i64 x3, .i .i64 x4, .i .i64 x5, .i .i64 x6, .i .i64 x7, .i .i64 x8, .i .i64 x9]]] ∧ (f x0 x1 x2 x3 x4 x5 x6 x7 x8 x9 w0).bind (fun (d : Bool) => some (Res.mk (AV.r (RV.c (CV.f (FV.b d)))) [Ch.keep] [])) = some r := by
  unfold F0_astrolabelaw14_DownsPlays at hr
  split at hr
  · rename_i b hb
    have e := ((QA_astrolabelaw14_DownsPlays).ok _ _ hb).trans (qa_astrolabelaw14_DownsPlays b)
    obtain ⟨he, hr1⟩ := test_eval hr
    clear hr
    have hr := hr1
    clear hr1
    rw [Nat.eq_of_beq_eq_true he] at e
    clear he
    rw [opt_eval2] at hr
    exact ⟨b.1.1, b.1.2.1.2.2.1, b.2.1.1.2.1, b.2.1.1.2.2.1, b.2.1.1.2.2.2.1, b.2.1.1.2.2.2.2.1, b.2.1.1.2.2.2.2.2.1, b.2.1.1.2.2.2.2.2.2.1, b.2.1.1.2.2.2.2.2.2.2.1, b.2.1.1.2.2.2.2.2.2.2.2.1, b.1.2.1.2.2.2.2, (Prod.mk.inj e).1, (Prod.mk.inj e).2, hr⟩
  · cases hr
theorem n_astrolabelaw14_DownsPlays {σ : Type} (q : (Bool) → Option σ) (x0 : Int) (x1 : Nat) (x2 : Nat → Int) (x3 : Nat → Int) (x4 : Nat → Int) (x5 : Nat → Int) (x6 : Nat → Int) (x7 : Nat → Int) (x8 : Nat → Int) (x9 : Nat → Int) (w0 : Bool) : (f_astrolabelaw14_DownsPlays x0 x1 x2 x3 x4 x5 x6 x7 x8 x9 w0).bind q = K_astrolabelaw14_DownsPlays f_astrolabelaw14_awake f_downs_New f_astrolabelaw14_own f___downs_Sampler__Put f___astrolaberef13_Sampler__Put f___downs_Sampler__Pending f_downs_Good f_astrolaberef13_Good (@L_astrolabelaw14_DownsPlays_0) x0 x1 x2 x3 x4 x5 x6 x7 x8 x9 w0 q := by
  unfold f_astrolabelaw14_DownsPlays
  exact m_astrolabelaw14_DownsPlays q f_astrolabelaw14_awake f_downs_New f_astrolabelaw14_own f___downs_Sampler__Put f___astrolaberef13_Sampler__Put f___downs_Sampler__Pending f_downs_Good f_astrolaberef13_Good (@L_astrolabelaw14_DownsPlays_0) (fun q d k => mL_astrolabelaw14_DownsPlays_0 q d k) x0 x1 x2 x3 x4 x5 x6 x7 x8 x9 w0 some
theorem s_astrolabelaw14_DownsPlays : Sound Try.prog 8 (F_astrolabelaw14_DownsPlays f_astrolabelaw14_DownsPlays) :=
  Sound.nil 1 [.i .i64, .i .i64, .i .i64, .i .i64, .i .i64, .i .i64, .i .i64, .i .i64] <| (inl_sums (l := [(30, F_astrolabelaw14_awake f_astrolabelaw14_awake), (31, F_downs_New f_downs_New), (36, F_astrolabelaw14_own f_astrolabelaw14_own), (32, F___downs_Sampler__Put f___downs_Sampler__Put), (37, F___astrolaberef13_Sampler__Put f___astrolaberef13_Sampler__Put), (35, F___downs_Sampler__Pending f___downs_Sampler__Pending), (34, F_downs_Good f_downs_Good), (38, F_astrolaberef13_Good f_astrolaberef13_Good)]) (.cons s_astrolabelaw14_awake (.cons s_downs_New (.cons s_astrolabelaw14_own (.cons s___downs_Sampler__Put (.cons s___astrolaberef13_Sampler__Put (.cons s___downs_Sampler__Pending (.cons s_downs_Good (.cons s_astrolaberef13_Good (.nil _))))))))) mixed (hs := ⟨[⟨11, [0, 2, 4, 6, 10, 11, 12, 13, 14, 15, 16, 17, 18, 19, 20, 21, 22, 24, 25, 26, 27, 28, 29, 30, 31, 32, 33, 34, 35, 36, 37, 38, 39, 40, 41, 42, 43, 44, 45, 46, 47, 48, 49, 50, 51, 52, 53, 54, 55, 56, 57, 58, 59, 60, 61, 62, 63, 64, 65, 66, 67, 68, 69, 70, 71, 72, 73, 74, 75, 76, 77, 78, 82, 83, 87, 88, 97, 98, 110, 111, 112, 113, 114, 115, 79, 80, 81, 84, 85, 86, 89, 90, 91, 92, 93, 94, 95, 96, 99, 100, 101, 102, 103, 104, 105, 106, 107, 108, 109], []⟩], [⟨11, 1, @R_astrolabelaw14_DownsPlays_0 (@L_astrolabelaw14_DownsPlays_0)⟩], [], [], (some ⟨0, [0, 1, 2, 3, 5, 6, 7, 8, 9, 10, 11, 12, 13, 14, 15, 16, 17, 18, 19, 20, 21, 22, 23, 24, 25, 26, 27, 28, 29, 30, 31, 32, 33, 34, 35, 36, 37, 38, 39, 40, 41, 42, 43, 44, 45, 46, 47, 48, 49, 50, 51, 52, 53, 54, 55, 56, 57, 58, 59, 60, 61, 62, 63, 64, 65, 66, 67, 68, 69, 70, 71, 72, 73, 74, 75, 76, 77, 78, 79, 80, 81, 82, 83, 84, 85, 86, 87, 88, 89, 90, 91, 92, 93, 94, 95, 96, 97, 98, 99, 100, 101, 102, 103, 104, 105, 106, 107, 108, 109, 110, 111, 112, 113, 114, 115], []⟩)⟩) (lf := 200) (Sums.by (l := [loopIn Try.prog 8 11]) (lj := []) (by kernel_rfl) ⟨so_astrolabelaw14_DownsPlays_0, trivial⟩ (by kernel_rfl) trivial) (by kernel_rfl)).by (F := F0_astrolabelaw14_DownsPlays f_astrolabelaw14_DownsPlays) fun args b r hr => by
  obtain ⟨x0, x1, x2, x3, x4, x5, x6, x7, x8, x9, w0, rfl, rfl, hr1⟩ := e_astrolabelaw14_DownsPlays hr
  exact inl_eval ((d_astrolabelaw14_DownsPlays f_astrolabelaw14_awake f_downs_New f_astrolabelaw14_own f___downs_Sampler__Put f___astrolaberef13_Sampler__Put f___downs_Sampler__Pending f_downs_Good f_astrolaberef13_Good (@L_astrolabelaw14_DownsPlays_0) x0 x1 x2 x3 x4 x5 x6 x7 x8 x9 w0).trans ((n_astrolabelaw14_DownsPlays (fun (d : Bool) => some (Res.mk (AV.r (RV.c (CV.f (FV.b d)))) [Ch.keep] [])) x0 x1 x2 x3 x4 x5 x6 x7 x8 x9 w0).symm.trans hr1))

end Go.Proofs.Ytmlmpcabphgfaaa
