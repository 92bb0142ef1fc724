/-
  The carries of math/bits, as they stand in the program. The carries of math/bits, as they stand in the program. Parts of long tuples; cells in short. Contracts by plain functions: astrolabelaw19.sample, gnss.place, earth.Good, gnss.Good, (*fx.Acc).Clamp, (*fx.Acc).Sat, wide.abs64, math/bits.Mul64, wide.signed, wide.Mul, fx.sign, wide.abs, math/bits.Len64, math/bits.LeadingZeros64, math/bits.Div64, (wide.big).plus, wide.signed64, wide.Div, (*fx.Acc).end, (*fx.Acc).by, (*fx.Acc).MulDiv, gnss.variance
-/
import Derived.Test.YtdpenjncfmkbgaaAbNil
set_option linter.unusedVariables false
set_option linter.unusedSimpArgs false
namespace Go.Proofs.Ytdpenjncfmkbgaa
open Go.Ab
theorem s_Add64 [Amb] : Sound Try.prog 91 (F_carry f_Add64) := carry_of (add64_sound (fn := Try.f91) Try.func91 (by kernel_rfl) (by kernel_rfl) (by kernel_rfl) (by kernel_rfl))
end Go.Proofs.Ytdpenjncfmkbgaa
namespace Go.Proofs.Ytdpenjncfmkbgaa
open Go.Ab
theorem s_Sub64 [Amb] : Sound Try.prog 95 (F_carry f_Sub64) := carry_of (sub64_sound (fn := Try.f95) Try.func95 (by kernel_rfl) (by kernel_rfl) (by kernel_rfl) (by kernel_rfl))
end Go.Proofs.Ytdpenjncfmkbgaa
namespace Go.Ab
@[reducible] def _root_.Prod.c4 {a b c d e : Type} (x : a × b × c × d × e) : e := x.2.2.2.2
@[reducible] def _root_.Prod.c8 {a b c d e f g h i : Type} (x : a × b × c × d × e × f × g × h × i) : i := x.2.2.2.2.2.2.2.2
@[reducible] def _root_.Prod.c16 {a b c d e f g h i j k l m n o p q : Type} (x : a × b × c × d × e × f × g × h × i × j × k × l × m × n × o × p × q) : q := x.2.2.2.2.2.2.2.2.2.2.2.2.2.2.2.2
abbrev NI := Nat → Int
abbrev un : AV := .und
abbrev kI (g : Nat → Int) : Col := .i .i64 g
abbrev fI (n : Int) : CV := .f (.i .i64 n)
abbrev rI (n : Int) : AV := .r (.c (.f (.i .i64 n)))
abbrev rU (n : Int) : AV := .r (.c (.f (.i .u64 n)))
abbrev rB (n : Bool) : AV := .r (.c (.f (.b n)))
abbrev sI (n : Int) : Sg := .c (.f (.i .i64 n))
abbrev sU (n : Int) : Sg := .c (.f (.i .u64 n))
abbrev sB (n : Bool) : Sg := .c (.f (.b n))
end Go.Ab
set_option maxRecDepth 100000
set_option maxHeartbeats 4000000
set_option linter.unusedVariables false
namespace Go.Proofs.Ytdpenjncfmkbgaa
open Go.Ab
abbrev u0GN1 : List Nat := [0, 1, 3, 4, 5, 6, 7, 8, 9, 10, 11, 12, 13, 14, 15, 16, 17, 18, 19, 20, 21, 22, 23, 24, 25, 26, 27, 28, 29, 30, 31, 32, 33, 34, 35, 36, 37]
abbrev u1GN1 : List Nat := [1, 3, 4, 5, 6, 7, 8, 9, 10, 11, 12, 13, 14, 15, 16, 17, 18, 19, 20, 21, 22, 23, 24]
abbrev u2GN1 : List Nat := [0, 1, 3, 4, 5, 6, 7, 8, 9, 10, 11, 12, 13, 14, 15, 16, 17, 18, 19, 20, 21, 22, 23, 24]
abbrev u3GN1 : List Nat := [0, 1, 2, 3, 4, 5, 8, 9, 10, 11, 12, 13, 14, 15, 16, 17, 18, 19, 20, 21, 22, 23, 24, 25, 26, 27, 28, 29, 30, 31, 32, 33, 34, 35, 36, 37, 38, 39, 40, 41, 42, 43, 44, 45, 46, 47, 48, 49, 50, 51, 52, 53, 54, 55, 56, 57, 58, 59, 60, 61, 62, 63, 64, 65, 66, 67, 68, 69, 70, 71, 72, 73, 74, 75, 76, 77, 78, 79, 80, 81, 82, 83, 84, 85, 86, 87, 88, 89, 90, 91, 92, 93, 94, 95, 96, 97, 98, 99, 100, 101, 102, 103, 104, 105, 106, 107, 108, 109, 110, 111, 112, 113, 114, 115, 116, 117, 118, 119, 120, 121, 122, 123, 124, 125, 126, 127, 128, 129, 130, 131, 132, 133, 134]
abbrev t4GN1 := Int → Int → Int → Int → Int → Int → Int → Int → Int → Option (Int × Int × Int)
abbrev t5GN1 := Int → Int → Int → Option Bool
abbrev t6GN1 := Int → Int → Int → Bool → Option (Int × Bool)
abbrev t7GN1 := Int → Option Int
abbrev t8GN1 := Int → Int → Option (Int × Int)
abbrev t9GN1 := Int → Int → Bool → Option (Int × Int × Bool)
abbrev t10GN1 := Int → Int → Option (Int × Int × Bool)
abbrev t11GN1 := Int → Int → Int → Option (Int × Int)
abbrev t12GN1 := Int → Int → Int → Int → Option (Int × Int)
abbrev t13GN1 := Int → Int → Bool → Option (Int × Bool)
abbrev t14GN1 := Bool → Option Int
abbrev t15GN1 := Int → Bool → Option (Int × Bool)
abbrev t16GN1 := Int → Int → Int → Option (Int × Bool)
abbrev t17GN1 := Int → Bool → Bool → Bool → Option (Int × Bool)
def K_Bb {ρ : Type} (k : (Unit) → Option ρ) : Option ρ := k ()
def f_Bb  : Option (Unit) := K_Bb    some
section
open Go.Ab.Rdr
def QA_Bb := ((pair nil nil) : Rdr (List AV × List Blk) _)
end
def F_Bb (f : Option (Unit)) : Sem1 := fun args h => match (QA_Bb).rd (args, h) with
  | some b => .opt (f ) fun (d : Unit) => .leaf (Res.mk
    (AV.r
      (RV.agg
        [sI 5, sI 0, sI 0, sI 0, sI 1000,
          sI 0, sI 0, sI 1000, sI 100]))
    [] [])
  | none => .fail
theorem d_Bb : den Try.prog (envOf []) ⟨[], [], [], [], none⟩ 200 8 [] [] = K_Bb (fun (d : Unit) => some (Res.mk (AV.r (RV.agg [sI 5, sI 0, sI 0, sI 0, sI 1000,
 sI 0, sI 0, sI 1000, sI 100])) [] [])) := by kernel_rfl
theorem m_Bb {ρ σ : Type} (q : ρ → Option σ)     (k : (Unit) → Option ρ) : (K_Bb    k).bind q = K_Bb    (fun d => (k d).bind q) := by
  simp only [K_Bb, bnd_cond, bnd_bind, bnd_none, bnd_sum]
theorem qa_Bb : ∀ b, (QA_Bb).em b = ([], []) := fun b => by kernel_rfl
theorem e_Bb {f : Option (Unit)} {args : List AV} {h : List Blk} {r : Res} (hr : (F_Bb f args h).eval = some r) : args = [] ∧ h = [] ∧ (f ).bind (fun (d : Unit) => some (Res.mk (AV.r (RV.agg [sI 5, sI 0, sI 0, sI 0,
 sI 1000, sI 0, sI 0, sI 1000, sI 100])) [] [])) = some r := by
  unfold F_Bb at hr
  split at hr
  · rename_i b hb
    have e := ((QA_Bb).ok _ _ hb).trans (qa_Bb b)
    rw [opt_eval2] at hr
    exact ⟨(Prod.mk.inj e).1, (Prod.mk.inj e).2, hr⟩
  · cases hr
theorem n_Bb {σ : Type} (q : (Unit) → Option σ)  : (f_Bb ).bind q = K_Bb    q := by
  unfold f_Bb
  exact m_Bb q     some
theorem s_Bb [Amb] : Sound Try.prog 8 (F_Bb f_Bb) := (inl_sound (l := []) (.nil _) mixed [] [] 200 (by kernel_rfl)).by (F := F_Bb f_Bb) fun args b r hr => by
  obtain ⟨rfl, rfl, hr1⟩ := e_Bb hr
  exact inl_eval ((d_Bb   ).trans ((n_Bb (fun (d : Unit) => some (Res.mk
    (AV.r
      (RV.agg
        [sI 5, sI 0, sI 0, sI 0, sI 1000,
          sI 0, sI 0, sI 1000, sI 100]))
    [] [])) ).symm.trans hr1))

def K_Aq {ρ : Type} (x0 : Int) (x1 : Int) (x2 : Int) (x3 : Int) (x4 : Int) (x5 : Int) (x6 : Int) (x7 : Int) (x8 : Int) (k : (Int × Int × Int) → Option ρ) : Option ρ := k (x1, x2, x3)
def f_Aq (x0 : Int) (x1 : Int) (x2 : Int) (x3 : Int) (x4 : Int) (x5 : Int) (x6 : Int) (x7 : Int) (x8 : Int) : Option (Int × Int × Int) := K_Aq   x0 x1 x2 x3 x4 x5 x6 x7 x8 some
section
open Go.Ab.Rdr
def QA_Aq := ((pair (cons (ar (ra (cons (gc (cf (fi .i64 hole))) (cons (gc (cf (fi .i64 hole))) (cons (gc (cf (fi .i64 hole))) (cons (gc (cf (fi .i64 hole))) (cons (gc (cf (fi .i64 hole))) (cons (gc (cf (fi .i64 hole))) (cons (gc (cf (fi .i64 hole))) (cons (gc (cf (fi .i64 hole))) (cons (gc (cf (fi .i64 hole))) nil))))))))))) nil) nil) : Rdr (List AV × List Blk) _)
end
def F_Aq (f : (Int) → (Int) → (Int) → (Int) → (Int) → (Int) → (Int) → (Int) → (Int) → Option (Int × Int × Int)) : Sem1 := fun args h => match (QA_Aq).rd (args, h) with
  | some b => .opt (f b.1.1.1 b.1.1.2.1 b.1.1.2.2.1 b.1.1.2.2.2.1 b.1.1.c4.1 b.1.1.c4.2.1 b.1.1.c4.2.2.1 b.1.1.c4.2.2.2.1 b.1.1.c8.1) fun (d : Int × Int × Int) => .leaf (Res.mk (AV.r (RV.agg [sI d.1, sI d.2.1, sI d.2.2])) [] [])
  | none => .fail
theorem d_Aq (x0 : Int) (x1 : Int) (x2 : Int) (x3 : Int) (x4 : Int) (x5 : Int) (x6 : Int) (x7 : Int) (x8 : Int) : den Try.prog (envOf []) ⟨[], [], [], [], none⟩ 200 26 [.r (.agg [.c (.f (.i .i64 x0)), .c (.f (.i .i64 x1)), .c (.f (.i .i64 x2)), .c (.f (.i .i64 x3)), .c (.f (.i .i64 x4)), .c (.f (.i .i64 x5)),
 .c (.f (.i .i64 x6)), .c (.f (.i .i64 x7)), .c (.f (.i .i64 x8))])] [] = K_Aq x0 x1 x2 x3 x4 x5 x6 x7 x8 (fun (d : Int × Int × Int) => some (Res.mk (AV.r (RV.agg [sI d.1, sI d.2.1, sI d.2.2])) [] [])) := by kernel_rfl
theorem m_Aq {ρ σ : Type} (q : ρ → Option σ)    (x0 : Int) (x1 : Int) (x2 : Int) (x3 : Int) (x4 : Int) (x5 : Int) (x6 : Int) (x7 : Int) (x8 : Int) (k : (Int × Int × Int) → Option ρ) : (K_Aq   x0 x1 x2 x3 x4 x5 x6 x7 x8 k).bind q = K_Aq   x0 x1 x2 x3 x4 x5 x6 x7 x8 (fun d => (k d).bind q) := by
  simp only [K_Aq, bnd_cond, bnd_bind, bnd_none, bnd_sum]
theorem qa_Aq : ∀ b, (QA_Aq).em b = ([.r (.agg [.c (.f (.i .i64 b.1.1.1)), .c (.f (.i .i64 b.1.1.2.1)), .c (.f (.i .i64 b.1.1.2.2.1)), .c (.f (.i .i64 b.1.1.2.2.2.1)), .c (.f (.i .i64 b.1.1.c4.1)), .c (.f (.i .i64 b.1.1.c4.2.1)), .c (.f (.i .i64 b.1.1.c4.2.2.1)), .c (.f (.i .i64 b.1.1.c4.2.2.2.1)), .c (.f (.i .i64 b.1.1.c8.1))])], []) := fun b => by kernel_rfl
theorem e_Aq {f : (Int) → (Int) → (Int) → (Int) → (Int) → (Int) → (Int) → (Int) → (Int) → Option (Int × Int × Int)} {args : List AV} {h : List Blk} {r : Res} (hr : (F_Aq f args h).eval = some r) : ∃ x0 x1 x2 x3 x4 x5 x6 x7 x8, args = [.r (.agg [.c (.f (.i .i64 x0)), .c (.f (.i .i64 x1)), .c (.f (.i .i64 x2)), .c (.f (.i .i64 x3)), .c (.f (.i .i64 x4)), .c (.f (.i .i64 x5)), .c (.f (.i .i64 x6)), .c (.f (.i .i64 x7)), .c (.f (.i .i64 x8))])] ∧ h = [] ∧ (f x0 x1 x2 x3 x4 x5 x6 x7 x8).bind (fun (d : Int × Int × Int) => some (Res.mk (AV.r (RV.agg [sI d.1, sI d.2.1, sI d.2.2])) [] [])) = some r := by
  unfold F_Aq at hr
  split at hr
  · rename_i b hb
    have e := ((QA_Aq).ok _ _ hb).trans (qa_Aq b)
    rw [opt_eval2] at hr
    exact ⟨b.1.1.1, b.1.1.2.1, b.1.1.2.2.1, b.1.1.2.2.2.1, b.1.1.c4.1, b.1.1.c4.2.1, b.1.1.c4.2.2.1, b.1.1.c4.2.2.2.1, b.1.1.c8.1, (Prod.mk.inj e).1, (Prod.mk.inj e).2, hr⟩
  · cases hr
theorem n_Aq {σ : Type} (q : (Int × Int × Int) → Option σ) (x0 : Int) (x1 : Int) (x2 : Int) (x3 : Int) (x4 : Int) (x5 : Int) (x6 : Int) (x7 : Int) (x8 : Int) : (f_Aq x0 x1 x2 x3 x4 x5 x6 x7 x8).bind q = K_Aq   x0 x1 x2 x3 x4 x5 x6 x7 x8 q := by
  unfold f_Aq
  exact m_Aq q    x0 x1 x2 x3 x4 x5 x6 x7 x8 some
theorem s_Aq [Amb] : Sound Try.prog 26 (F_Aq f_Aq) := (inl_sound (l := []) (.nil _) mixed [] [] 200 (by kernel_rfl)).by (F := F_Aq f_Aq) fun args b r hr => by
  obtain ⟨x0, x1, x2, x3, x4, x5, x6, x7, x8, rfl, rfl, hr1⟩ := e_Aq hr
  exact inl_eval ((d_Aq   x0 x1 x2 x3 x4 x5 x6 x7 x8).trans ((n_Aq (fun (d : Int × Int × Int) => some (Res.mk (AV.r (RV.agg [sI d.1, sI d.2.1, sI d.2.2])) [] [])) x0 x1 x2 x3 x4 x5 x6 x7 x8).symm.trans hr1))

def K_AK {ρ : Type} (x0 : Int) (x1 : Int) (x2 : Int) (k : (Bool) → Option ρ) : Option ρ := bif decide (x0 ≥ -900000000) then bif decide (x0 ≤ 900000000) then bif decide (x1 ≥ -1800000000) then bif decide (x1 ≤ 1800000000) then bif decide (x2 ≥ -100000000) then k (decide (x2 ≤ 100000000)) else k false else
 k false else k false else k false else k false
def f_AK (x0 : Int) (x1 : Int) (x2 : Int) : Option (Bool) := K_AK   x0 x1 x2 some
section
open Go.Ab.Rdr
def QA_AK := ((pair (cons (ar (ra (cons (gc (cf (fi .i64 hole))) (cons (gc (cf (fi .i64 hole))) (cons (gc (cf (fi .i64 hole))) nil))))) nil) nil) : Rdr (List AV × List Blk) _)
end
def F_AK (f : (Int) → (Int) → (Int) → Option (Bool)) : Sem1 := fun args h => match (QA_AK).rd (args, h) with
  | some b => .opt (f b.1.1.1 b.1.1.2.1 b.1.1.2.2.1) fun (d : Bool) => .leaf (Res.mk (rB d) [] [])
  | none => .fail
theorem d_AK (x0 : Int) (x1 : Int) (x2 : Int) : den Try.prog (envOf []) ⟨[], [], [], [], none⟩ 200 20 [.r (.agg [.c (.f (.i .i64 x0)), .c (.f (.i .i64 x1)), .c (.f (.i .i64 x2))])] [] = K_AK x0 x1 x2 (fun (d : Bool) => some (Res.mk (rB d) [] [])) := by kernel_rfl
theorem m_AK {ρ σ : Type} (q : ρ → Option σ)    (x0 : Int) (x1 : Int) (x2 : Int) (k : (Bool) → Option ρ) : (K_AK   x0 x1 x2 k).bind q = K_AK   x0 x1 x2 (fun d => (k d).bind q) := by
  simp only [K_AK, bnd_cond, bnd_bind, bnd_none, bnd_sum]
theorem qa_AK : ∀ b, (QA_AK).em b = ([.r (.agg [.c (.f (.i .i64 b.1.1.1)), .c (.f (.i .i64 b.1.1.2.1)), .c (.f (.i .i64 b.1.1.2.2.1))])], []) := fun b => by kernel_rfl
theorem e_AK {f : (Int) → (Int) → (Int) → Option (Bool)} {args : List AV} {h : List Blk} {r : Res} (hr : (F_AK f args h).eval = some r) : ∃ x0 x1 x2, args = [.r (.agg [.c (.f (.i .i64 x0)), .c (.f (.i .i64 x1)), .c (.f (.i .i64 x2))])] ∧ h = [] ∧ (f x0 x1 x2).bind (fun (d : Bool) => some (Res.mk (rB d) [] [])) = some r := by
  unfold F_AK at hr
  split at hr
  · rename_i b hb
    have e := ((QA_AK).ok _ _ hb).trans (qa_AK b)
    rw [opt_eval2] at hr
    exact ⟨b.1.1.1, b.1.1.2.1, b.1.1.2.2.1, (Prod.mk.inj e).1, (Prod.mk.inj e).2, hr⟩
  · cases hr
theorem n_AK {σ : Type} (q : (Bool) → Option σ) (x0 : Int) (x1 : Int) (x2 : Int) : (f_AK x0 x1 x2).bind q = K_AK   x0 x1 x2 q := by
  unfold f_AK
  exact m_AK q    x0 x1 x2 some
theorem s_AK [Amb] : Sound Try.prog 20 (F_AK f_AK) := (inl_sound (l := []) (.nil _) mixed [] [] 200 (by kernel_rfl)).by (F := F_AK f_AK) fun args b r hr => by
  obtain ⟨x0, x1, x2, rfl, rfl, hr1⟩ := e_AK hr
  exact inl_eval ((d_AK   x0 x1 x2).trans ((n_AK (fun (d : Bool) => some (Res.mk (rB d) [] [])) x0 x1 x2).symm.trans hr1))

def K_Ap {ρ : Type} (g_Aq : t4GN1) (g_AK : t5GN1) (x0 : Int) (x1 : Int) (x2 : Int) (x3 : Int) (x4 : Int) (x5 : Int) (x6 : Int) (x7 : Int) (x8 : Int) (k : (Bool) → Option ρ) : Option ρ := bif decide (x4 < -1000000) then
 k false else bif decide (x4 > 1000000) then k false else bif decide (x5 < -1000000) then k false else bif decide (x5 > 1000000) then k false else bif decide (x6 < -1000000) then k false else bif decide (x6 > 1000000) then k false else bif decide (x7 < 1) then k false else bif decide (x7 > 1000000) then
 k false else bif decide (x8 < 1) then k false else bif decide (x8 > 1000000) then k false else Option.bind (g_Aq x0 x1 x2 x3 x4 x5 x6 x7 x8) fun (d : Int × Int × Int) => Option.bind (g_AK d.1 d.2.1 d.2.2) fun (d : Bool) => k d
def f_Ap (x0 : Int) (x1 : Int) (x2 : Int) (x3 : Int) (x4 : Int) (x5 : Int) (x6 : Int) (x7 : Int) (x8 : Int) : Option (Bool) := K_Ap f_Aq f_AK  x0 x1 x2 x3 x4 x5 x6 x7 x8 some
section
open Go.Ab.Rdr
def QA_Ap := ((pair (cons (ar (ra (cons (gc (cf (fi .i64 hole))) (cons (gc (cf (fi .i64 hole))) (cons (gc (cf (fi .i64 hole))) (cons (gc (cf (fi .i64 hole))) (cons (gc (cf (fi .i64 hole))) (cons (gc (cf (fi .i64 hole))) (cons (gc (cf (fi .i64 hole))) (cons (gc (cf (fi .i64 hole))) (cons (gc (cf (fi .i64 hole))) nil))))))))))) nil) nil) : Rdr (List AV × List Blk) _)
end
def F_Ap (f : (Int) → (Int) → (Int) → (Int) → (Int) → (Int) → (Int) → (Int) → (Int) → Option (Bool)) : Sem1 := fun args h => match (QA_Ap).rd (args, h) with
  | some b => .opt (f b.1.1.1 b.1.1.2.1 b.1.1.2.2.1 b.1.1.2.2.2.1 b.1.1.c4.1 b.1.1.c4.2.1 b.1.1.c4.2.2.1 b.1.1.c4.2.2.2.1 b.1.1.c8.1) fun (d : Bool) => .leaf (Res.mk (rB d) [] [])
  | none => .fail
theorem d_Ap (g_Aq : t4GN1) (g_AK : t5GN1) (x0 : Int) (x1 : Int) (x2 : Int) (x3 : Int) (x4 : Int) (x5 : Int) (x6 : Int) (x7 : Int) (x8 : Int) : den Try.prog (envOf [(26, F_Aq g_Aq), (20, F_AK g_AK)]) ⟨[⟨2,
 [0, 3, 4, 5, 6, 7, 11, 12, 13, 14, 15, 16, 19, 20, 21, 22, 23, 24, 25, 26, 27, 28, 29, 30, 33, 34, 35, 36, 37, 17, 18], []⟩, ⟨8, [0, 3, 4, 5, 6, 7, 8, 9, 10, 11, 12, 13, 14, 15, 16, 17, 18, 19, 20, 21, 25, 26, 27, 28, 29, 30, 33, 34, 35, 36, 37, 31, 32], []⟩], [], [], [], (some ⟨0, u0GN1, []⟩)⟩ 200 13 [.r (.agg [.c (.f (.i .i64 x0)), .c (.f (.i .i64 x1)), .c (.f (.i .i64 x2)), .c (.f (.i .i64 x3)), .c (.f (.i .i64 x4)), .c (.f (.i .i64 x5)), .c (.f (.i .i64 x6)), .c (.f (.i .i64 x7)),
 .c (.f (.i .i64 x8))])] [] = K_Ap g_Aq g_AK x0 x1 x2 x3 x4 x5 x6 x7 x8 (fun (d : Bool) => some (Res.mk (rB d) [] [])) := by kernel_rfl
theorem m_Ap {ρ σ : Type} (q : ρ → Option σ) (g_Aq : t4GN1) (g_AK : t5GN1)   (x0 : Int) (x1 : Int) (x2 : Int) (x3 : Int) (x4 : Int) (x5 : Int) (x6 : Int) (x7 : Int) (x8 : Int) (k : (Bool) → Option ρ) : (K_Ap g_Aq g_AK  x0 x1 x2 x3 x4 x5 x6 x7 x8 k).bind q = K_Ap g_Aq g_AK  x0 x1 x2 x3 x4 x5 x6 x7 x8 (fun d => (k d).bind q) := by
  simp only [K_Ap, bnd_cond, bnd_bind, bnd_none, bnd_sum]
theorem qa_Ap : ∀ b, (QA_Ap).em b = ([.r (.agg [.c (.f (.i .i64 b.1.1.1)), .c (.f (.i .i64 b.1.1.2.1)), .c (.f (.i .i64 b.1.1.2.2.1)), .c (.f (.i .i64 b.1.1.2.2.2.1)), .c (.f (.i .i64 b.1.1.c4.1)), .c (.f (.i .i64 b.1.1.c4.2.1)), .c (.f (.i .i64 b.1.1.c4.2.2.1)), .c (.f (.i .i64 b.1.1.c4.2.2.2.1)), .c (.f (.i .i64 b.1.1.c8.1))])], []) := fun b => by kernel_rfl
theorem e_Ap {f : (Int) → (Int) → (Int) → (Int) → (Int) → (Int) → (Int) → (Int) → (Int) → Option (Bool)} {args : List AV} {h : List Blk} {r : Res} (hr : (F_Ap f args h).eval = some r) : ∃ x0 x1 x2 x3 x4 x5 x6 x7 x8, args = [.r (.agg [.c (.f (.i .i64 x0)), .c (.f (.i .i64 x1)), .c (.f (.i .i64 x2)), .c (.f (.i .i64 x3)), .c (.f (.i .i64 x4)), .c (.f (.i .i64 x5)), .c (.f (.i .i64 x6)), .c (.f (.i .i64 x7)), .c (.f (.i .i64 x8))])] ∧ h = [] ∧ (f x0 x1 x2 x3 x4 x5 x6 x7 x8).bind (fun (d : Bool) => some (Res.mk (rB d) [] [])) = some r := by
  unfold F_Ap at hr
  split at hr
  · rename_i b hb
    have e := ((QA_Ap).ok _ _ hb).trans (qa_Ap b)
    rw [opt_eval2] at hr
    exact ⟨b.1.1.1, b.1.1.2.1, b.1.1.2.2.1, b.1.1.2.2.2.1, b.1.1.c4.1, b.1.1.c4.2.1, b.1.1.c4.2.2.1, b.1.1.c4.2.2.2.1, b.1.1.c8.1, (Prod.mk.inj e).1, (Prod.mk.inj e).2, hr⟩
  · cases hr
theorem n_Ap {σ : Type} (q : (Bool) → Option σ) (x0 : Int) (x1 : Int) (x2 : Int) (x3 : Int) (x4 : Int) (x5 : Int) (x6 : Int) (x7 : Int) (x8 : Int) : (f_Ap x0 x1 x2 x3 x4 x5 x6 x7 x8).bind q = K_Ap f_Aq f_AK  x0 x1 x2 x3 x4 x5 x6 x7 x8 q := by
  unfold f_Ap
  exact m_Ap q f_Aq f_AK   x0 x1 x2 x3 x4 x5 x6 x7 x8 some
theorem s_Ap [Amb] : Sound Try.prog 13 (F_Ap f_Ap) := (inl_sums (l := [(26, F_Aq f_Aq), (20, F_AK f_AK)]) (.cons s_Aq (.cons s_AK (.nil _))) mixed (hs := ⟨[⟨2, [0, 3, 4, 5, 6, 7, 11, 12, 13, 14, 15, 16, 19, 20, 21, 22, 23, 24, 25, 26, 27, 28, 29, 30, 33, 34, 35, 36, 37, 17, 18], []⟩, ⟨8, [0, 3, 4, 5,
 6, 7, 8, 9, 10, 11, 12, 13, 14, 15, 16, 17, 18, 19, 20, 21, 25, 26, 27, 28, 29, 30, 33, 34, 35, 36, 37, 31, 32], []⟩], [], [], [], (some ⟨0, u0GN1, []⟩)⟩) (lf := 200) (Sums.by (l := [loopIn Try.prog 13 2,
 loopIn Try.prog 13 8]) (lj := []) (by kernel_rfl) ⟨SumOK.no (by kernel_rfl), ⟨SumOK.no (by kernel_rfl), trivial⟩⟩ (by kernel_rfl) trivial) (by kernel_rfl)).by (F := F_Ap f_Ap) fun args b r hr => by
  obtain ⟨x0, x1, x2, x3, x4, x5, x6, x7, x8, rfl, rfl, hr1⟩ := e_Ap hr
  exact inl_eval ((d_Ap f_Aq f_AK  x0 x1 x2 x3 x4 x5 x6 x7 x8).trans ((n_Ap (fun (d : Bool) => some (Res.mk (rB d) [] [])) x0 x1 x2 x3 x4 x5 x6 x7 x8).symm.trans hr1))

def K_Aj {ρ : Type} (x0 : Int) (x1 : Int) (x2 : Int) (x3 : Bool) (k : (Int × Bool) → Option ρ) : Option ρ := bif decide (x1 > x2) then k (x1, true) else bif decide (x0 < x1) then k (x1, true) else bif decide (x0 > x2) then k (x2, true) else k (x0, x3)
def f_Aj (x0 : Int) (x1 : Int) (x2 : Int) (x3 : Bool) : Option (Int × Bool) := K_Aj   x0 x1 x2 x3 some
section
open Go.Ab.Rdr
def QA_Aj := ((pair (cons (ar (rc (cptr (nat 0) (ok' (nat 0)) (nat 1)))) (cons (ar (rc (cf (fi .i64 hole)))) (cons (ar (rc (cf (fi .i64 hole)))) (cons (ar (rc (cf (fi .i64 hole)))) nil)))) (cons (cons (gc (cf (fb hole))) nil) nil)) : Rdr (List AV × List Blk) _)
end
def F_Aj (f : (Int) → (Int) → (Int) → (Bool) → Option (Int × Bool)) : Sem1 := fun args h => match (QA_Aj).rd (args, h) with
  | some b => .opt (f b.1.2.1 b.1.2.2.1 b.1.2.2.2.1 b.2.1.1) fun (d : Int × Bool) => .leaf (Res.mk (rI d.1) [Ch.set [sB d.2]] [])
  | none => .fail
theorem d_Aj (x0 : Int) (x1 : Int) (x2 : Int) (x3 : Bool) : den Try.prog (envOf []) ⟨[], [], [0], [], none⟩ 200 37 [.r (.c (.ptr 0 (.k 0) 1)), rI x0, rI x1, rI x2] [[.c (.f (.b x3))]] = K_Aj x0 x1 x2 x3 (fun (d : Int × Bool) => some (Res.mk (rI d.1) [Ch.set [sB d.2]] [])) := by kernel_rfl
theorem m_Aj {ρ σ : Type} (q : ρ → Option σ)    (x0 : Int) (x1 : Int) (x2 : Int) (x3 : Bool) (k : (Int × Bool) → Option ρ) : (K_Aj   x0 x1 x2 x3 k).bind q = K_Aj   x0 x1 x2 x3 (fun d => (k d).bind q) := by
  simp only [K_Aj, bnd_cond, bnd_bind, bnd_none, bnd_sum]
theorem qa_Aj : ∀ b, (QA_Aj).em b = ([.r (.c (.ptr 0 (.k 0) 1)), rI b.1.2.1, rI b.1.2.2.1, rI b.1.2.2.2.1], [[.c (.f (.b b.2.1.1))]]) := fun b => by kernel_rfl
theorem e_Aj {f : (Int) → (Int) → (Int) → (Bool) → Option (Int × Bool)} {args : List AV} {h : List Blk} {r : Res} (hr : (F_Aj f args h).eval = some r) : ∃ x0 x1 x2 x3, args = [.r (.c (.ptr 0 (.k 0) 1)), rI x0, rI x1, rI x2] ∧ h = [[.c (.f (.b x3))]] ∧ (f x0 x1 x2 x3).bind (fun (d : Int × Bool) => some (Res.mk (rI d.1) [Ch.set [sB d.2]] [])) = some r := by
  unfold F_Aj at hr
  split at hr
  · rename_i b hb
    have e := ((QA_Aj).ok _ _ hb).trans (qa_Aj b)
    rw [opt_eval2] at hr
    exact ⟨b.1.2.1, b.1.2.2.1, b.1.2.2.2.1, b.2.1.1, (Prod.mk.inj e).1, (Prod.mk.inj e).2, hr⟩
  · cases hr
theorem n_Aj {σ : Type} (q : (Int × Bool) → Option σ) (x0 : Int) (x1 : Int) (x2 : Int) (x3 : Bool) : (f_Aj x0 x1 x2 x3).bind q = K_Aj   x0 x1 x2 x3 q := by
  unfold f_Aj
  exact m_Aj q    x0 x1 x2 x3 some
theorem s_Aj [Amb] : Sound Try.prog 37 (F_Aj f_Aj) := (inl_sound (l := []) (.nil _) mixed [] [0] 200 (by kernel_rfl)).by (F := F_Aj f_Aj) fun args b r hr => by
  obtain ⟨x0, x1, x2, x3, rfl, rfl, hr1⟩ := e_Aj hr
  exact inl_eval ((d_Aj   x0 x1 x2 x3).trans ((n_Aj (fun (d : Int × Bool) => some (Res.mk (rI d.1) [Ch.set [sB d.2]] [])) x0 x1 x2 x3).symm.trans hr1))

def K_J {ρ : Type} (g_Aj : t6GN1) (x0 : Int) (x1 : Bool) (k : (Int × Bool) → Option ρ) : Option ρ := Option.bind (g_Aj x0 (-1152921504606846976) 1152921504606846976 x1) fun (d : Int × Bool) => k (d.1, d.2)
def f_J (x0 : Int) (x1 : Bool) : Option (Int × Bool) := K_J f_Aj  x0 x1 some
section
open Go.Ab.Rdr
def QA_J := ((pair (cons (ar (rc (cptr (nat 0) (ok' (nat 0)) (nat 1)))) (cons (ar (rc (cf (fi .i64 hole)))) nil)) (cons (cons (gc (cf (fb hole))) nil) nil)) : Rdr (List AV × List Blk) _)
end
def F_J (f : (Int) → (Bool) → Option (Int × Bool)) : Sem1 := fun args h => match (QA_J).rd (args, h) with
  | some b => .opt (f b.1.2.1 b.2.1.1) fun (d : Int × Bool) => .leaf (Res.mk (rI d.1) [Ch.set [sB d.2]] [])
  | none => .fail
theorem d_J (g_Aj : t6GN1) (x0 : Int) (x1 : Bool) : den Try.prog (envOf [(37, F_Aj g_Aj)]) ⟨[], [], [], [], none⟩ 200 52 [.r (.c (.ptr 0 (.k 0) 1)), rI x0] [[.c (.f (.b x1))]] = K_J g_Aj x0 x1 (fun (d : Int × Bool) => some (Res.mk (rI d.1) [Ch.set [sB d.2]] [])) := by kernel_rfl
theorem m_J {ρ σ : Type} (q : ρ → Option σ) (g_Aj : t6GN1)   (x0 : Int) (x1 : Bool) (k : (Int × Bool) → Option ρ) : (K_J g_Aj  x0 x1 k).bind q = K_J g_Aj  x0 x1 (fun d => (k d).bind q) := by
  simp only [K_J, bnd_cond, bnd_bind, bnd_none, bnd_sum]
theorem qa_J : ∀ b, (QA_J).em b = ([.r (.c (.ptr 0 (.k 0) 1)), rI b.1.2.1], [[.c (.f (.b b.2.1.1))]]) := fun b => by kernel_rfl
theorem e_J {f : (Int) → (Bool) → Option (Int × Bool)} {args : List AV} {h : List Blk} {r : Res} (hr : (F_J f args h).eval = some r) : ∃ x0 x1, args = [.r (.c (.ptr 0 (.k 0) 1)), rI x0] ∧ h = [[.c (.f (.b x1))]] ∧ (f x0 x1).bind (fun (d : Int × Bool) => some (Res.mk (rI d.1) [Ch.set [sB d.2]] [])) = some r := by
  unfold F_J at hr
  split at hr
  · rename_i b hb
    have e := ((QA_J).ok _ _ hb).trans (qa_J b)
    rw [opt_eval2] at hr
    exact ⟨b.1.2.1, b.2.1.1, (Prod.mk.inj e).1, (Prod.mk.inj e).2, hr⟩
  · cases hr
theorem n_J {σ : Type} (q : (Int × Bool) → Option σ) (x0 : Int) (x1 : Bool) : (f_J x0 x1).bind q = K_J f_Aj  x0 x1 q := by
  unfold f_J
  exact m_J q f_Aj   x0 x1 some
theorem s_J [Amb] : Sound Try.prog 52 (F_J f_J) := (inl_sound (l := [(37, F_Aj f_Aj)]) (.cons s_Aj (.nil _)) mixed [] [] 200 (by kernel_rfl)).by (F := F_J f_J) fun args b r hr => by
  obtain ⟨x0, x1, rfl, rfl, hr1⟩ := e_J hr
  exact inl_eval ((d_J f_Aj  x0 x1).trans ((n_J (fun (d : Int × Bool) => some (Res.mk (rI d.1) [Ch.set [sB d.2]] [])) x0 x1).symm.trans hr1))

def K_Ak {ρ : Type} (x0 : Int) (k : (Int) → Option ρ) : Option ρ := bif decide (x0 < 0) then k (IntKind.wrap .u64 (0 - IntKind.wrap .u64 x0)) else k (IntKind.wrap .u64 x0)
def f_Ak (x0 : Int) : Option (Int) := K_Ak   x0 some
section
open Go.Ab.Rdr
def QA_Ak := ((pair (cons (ar (rc (cf (fi .i64 hole)))) nil) nil) : Rdr (List AV × List Blk) _)
end
def F_Ak (f : (Int) → Option (Int)) : Sem1 := fun args h => match (QA_Ak).rd (args, h) with
  | some b => .opt (f b.1.1) fun (d : Int) => .leaf (Res.mk (rU d) [] [])
  | none => .fail
theorem d_Ak (x0 : Int) : den Try.prog (envOf []) ⟨[], [], [], [], none⟩ 200 76 [rI x0] [] = K_Ak x0 (fun (d : Int) => some (Res.mk (rU d) [] [])) := by kernel_rfl
theorem m_Ak {ρ σ : Type} (q : ρ → Option σ)    (x0 : Int) (k : (Int) → Option ρ) : (K_Ak   x0 k).bind q = K_Ak   x0 (fun d => (k d).bind q) := by
  simp only [K_Ak, bnd_cond, bnd_bind, bnd_none, bnd_sum]
theorem qa_Ak : ∀ b, (QA_Ak).em b = ([rI b.1.1], []) := fun b => by kernel_rfl
theorem e_Ak {f : (Int) → Option (Int)} {args : List AV} {h : List Blk} {r : Res} (hr : (F_Ak f args h).eval = some r) : ∃ x0, args = [rI x0] ∧ h = [] ∧ (f x0).bind (fun (d : Int) => some (Res.mk (rU d) [] [])) = some r := by
  unfold F_Ak at hr
  split at hr
  · rename_i b hb
    have e := ((QA_Ak).ok _ _ hb).trans (qa_Ak b)
    rw [opt_eval2] at hr
    exact ⟨b.1.1, (Prod.mk.inj e).1, (Prod.mk.inj e).2, hr⟩
  · cases hr
theorem n_Ak {σ : Type} (q : (Int) → Option σ) (x0 : Int) : (f_Ak x0).bind q = K_Ak   x0 q := by
  unfold f_Ak
  exact m_Ak q    x0 some
theorem s_Ak [Amb] : Sound Try.prog 76 (F_Ak f_Ak) := (inl_sound (l := []) (.nil _) mixed [] [] 200 (by kernel_rfl)).by (F := F_Ak f_Ak) fun args b r hr => by
  obtain ⟨x0, rfl, rfl, hr1⟩ := e_Ak hr
  exact inl_eval ((d_Ak   x0).trans ((n_Ak (fun (d : Int) => some (Res.mk (rU d) [] [])) x0).symm.trans hr1))

def K_BQ {ρ : Type} (x0 : Int) (x1 : Int) (k : (Int × Int) → Option ρ) : Option ρ := k (IntKind.wrap .u64 (IntKind.wrap .u64 (IntKind.wrap .u64 (Int.fdiv x0 4294967296 * Int.fdiv x1 4294967296) + Int.fdiv (IntKind.wrap .u64 (IntKind.wrap .u64 (Int.fdiv x0 4294967296 * IntKind.wrap .u64 (Int.ofNat (BitVec.toNat (BitVec.ofInt 64 x1 &&& BitVec.ofInt 64 4294967295)))) + Int.fdiv (IntKind.wrap .u64 (IntKind.wrap .u64 (Int.ofNat (BitVec.toNat (BitVec.ofInt 64 x0 &&& BitVec.ofInt 64 4294967295))) * IntKind.wrap .u64 (Int.ofNat (BitVec.toNat (BitVec.ofInt 64 x1 &&& BitVec.ofInt 64 4294967295))))) 4294967296)) 4294967296) + Int.fdiv (IntKind.wrap .u64 (IntKind.wrap .u64 (Int.ofNat (BitVec.toNat (BitVec.ofInt 64 (IntKind.wrap .u64 (IntKind.wrap .u64 (Int.fdiv x0 4294967296 * IntKind.wrap .u64 (Int.ofNat (BitVec.toNat (BitVec.ofInt 64 x1 &&& BitVec.ofInt 64 4294967295)))) + Int.fdiv (IntKind.wrap .u64 (IntKind.wrap .u64 (Int.ofNat (BitVec.toNat (BitVec.ofInt 64 x0 &&& BitVec.ofInt 64 4294967295))) * IntKind.wrap .u64 (Int.ofNat (BitVec.toNat (BitVec.ofInt 64 x1 &&& BitVec.ofInt 64 4294967295))))) 4294967296)) &&& BitVec.ofInt 64 4294967295))) + IntKind.wrap .u64 (IntKind.wrap .u64 (Int.ofNat (BitVec.toNat (BitVec.ofInt 64 x0 &&& BitVec.ofInt 64 4294967295))) * Int.fdiv x1 4294967296))) 4294967296),
 IntKind.wrap .u64 (x0 * x1))
def f_BQ (x0 : Int) (x1 : Int) : Option (Int × Int) := K_BQ   x0 x1 some
section
open Go.Ab.Rdr
def QA_BQ := ((pair (cons (ar (rc (cf (fi .u64 hole)))) (cons (ar (rc (cf (fi .u64 hole)))) nil)) nil) : Rdr (List AV × List Blk) _)
end
def F_BQ (f : (Int) → (Int) → Option (Int × Int)) : Sem1 := fun args h => match (QA_BQ).rd (args, h) with
  | some b => .opt (f b.1.1 b.1.2.1) fun (d : Int × Int) => .leaf (Res.mk (AV.tup [RV.c (CV.f (FV.i .u64 d.1)), RV.c (CV.f (FV.i .u64 d.2))]) [] [])
  | none => .fail
theorem d_BQ (x0 : Int) (x1 : Int) : den Try.prog (envOf []) ⟨[], [], [], [], none⟩ 200 75 [rU x0, rU x1] [] = K_BQ x0 x1 (fun (d : Int × Int) => some (Res.mk (AV.tup [RV.c (CV.f (FV.i .u64 d.1)), RV.c (CV.f (FV.i .u64 d.2))]) [] [])) := by kernel_rfl
theorem m_BQ {ρ σ : Type} (q : ρ → Option σ)    (x0 : Int) (x1 : Int) (k : (Int × Int) → Option ρ) : (K_BQ   x0 x1 k).bind q = K_BQ   x0 x1 (fun d => (k d).bind q) := by
  simp only [K_BQ, bnd_cond, bnd_bind, bnd_none, bnd_sum]
theorem qa_BQ : ∀ b, (QA_BQ).em b = ([rU b.1.1, rU b.1.2.1], []) := fun b => by kernel_rfl
theorem e_BQ {f : (Int) → (Int) → Option (Int × Int)} {args : List AV} {h : List Blk} {r : Res} (hr : (F_BQ f args h).eval = some r) : ∃ x0 x1, args = [rU x0, rU x1] ∧ h = [] ∧ (f x0 x1).bind (fun (d : Int × Int) => some (Res.mk (AV.tup [RV.c (CV.f (FV.i .u64 d.1)), RV.c (CV.f (FV.i .u64 d.2))]) [] [])) = some r := by
  unfold F_BQ at hr
  split at hr
  · rename_i b hb
    have e := ((QA_BQ).ok _ _ hb).trans (qa_BQ b)
    rw [opt_eval2] at hr
    exact ⟨b.1.1, b.1.2.1, (Prod.mk.inj e).1, (Prod.mk.inj e).2, hr⟩
  · cases hr
theorem n_BQ {σ : Type} (q : (Int × Int) → Option σ) (x0 : Int) (x1 : Int) : (f_BQ x0 x1).bind q = K_BQ   x0 x1 q := by
  unfold f_BQ
  exact m_BQ q    x0 x1 some
theorem s_BQ [Amb] : Sound Try.prog 75 (F_BQ f_BQ) := (inl_sound (l := []) (.nil _) mixed [] [] 200 (by kernel_rfl)).by (F := F_BQ f_BQ) fun args b r hr => by
  obtain ⟨x0, x1, rfl, rfl, hr1⟩ := e_BQ hr
  exact inl_eval ((d_BQ   x0 x1).trans ((n_BQ (fun (d : Int × Int) => some (Res.mk (AV.tup [RV.c (CV.f (FV.i .u64 d.1)), RV.c (CV.f (FV.i .u64 d.2))]) [] [])) x0 x1).symm.trans hr1))

def K_Av {ρ : Type} (g_Add64 : C3) (x0 : Int) (x1 : Int) (x2 : Bool) (k : (Int × Int × Bool) → Option ρ) : Option ρ := bif !x2 then k (IntKind.wrap .i64 x0, x1, Int.fdiv x0 9223372036854775808 == 0) else Option.bind (g_Add64 (IntKind.wrap .u64 (Int.ofNat (BitVec.toNat (BitVec.ofInt 64 18446744073709551615 ^^^ BitVec.ofInt 64 x1)))) 1 0) fun (d : Int ×
 Int) => bif decide (IntKind.wrap .i64 (IntKind.wrap .u64 (IntKind.wrap .u64 (Int.ofNat (BitVec.toNat (BitVec.ofInt 64 18446744073709551615 ^^^ BitVec.ofInt 64 x0))) + d.2)) < 0) then k (IntKind.wrap .i64 (IntKind.wrap .u64 (IntKind.wrap .u64 (Int.ofNat (BitVec.toNat (BitVec.ofInt 64 18446744073709551615 ^^^ BitVec.ofInt 64 x0))) + d.2)),
 d.1, true) else k (IntKind.wrap .i64 (IntKind.wrap .u64 (IntKind.wrap .u64 (Int.ofNat (BitVec.toNat (BitVec.ofInt 64 18446744073709551615 ^^^ BitVec.ofInt 64 x0))) + d.2)), d.1, x0 == 0 && (x1 == 0 && true))
def f_Av (x0 : Int) (x1 : Int) (x2 : Bool) : Option (Int × Int × Bool) := K_Av f_Add64  x0 x1 x2 some
section
open Go.Ab.Rdr
def QA_Av := ((pair (cons (ar (ra (cons (gc (cf (fi .u64 hole))) (cons (gc (cf (fi .u64 hole))) nil)))) (cons (ar (rc (cf (fb hole)))) nil)) nil) : Rdr (List AV × List Blk) _)
end
def F_Av (f : (Int) → (Int) → (Bool) → Option (Int × Int × Bool)) : Sem1 := fun args h => match (QA_Av).rd (args, h) with
  | some b => .opt (f b.1.1.1 b.1.1.2.1 b.1.2.1) fun (d : Int × Int × Bool) => .leaf (Res.mk (AV.tup [RV.agg [sI d.1, sU d.2.1], RV.c (CV.f (FV.b d.2.2))]) [] [])
  | none => .fail
theorem d_Av (g_Add64 : C3) (x0 : Int) (x1 : Int) (x2 : Bool) : den Try.prog (envOf [(91, F_carry g_Add64)]) ⟨[], [], [], [], none⟩ 200 77 [.r (.agg [.c (.f (.i .u64 x0)), .c (.f (.i .u64 x1))]), rB x2] [] = K_Av g_Add64 x0 x1 x2 (fun (d : Int × Int × Bool) => some (Res.mk (AV.tup [RV.agg [sI d.1,
 sU d.2.1], RV.c (CV.f (FV.b d.2.2))]) [] [])) := by kernel_rfl
theorem m_Av {ρ σ : Type} (q : ρ → Option σ) (g_Add64 : C3)   (x0 : Int) (x1 : Int) (x2 : Bool) (k : (Int × Int × Bool) → Option ρ) : (K_Av g_Add64  x0 x1 x2 k).bind q = K_Av g_Add64  x0 x1 x2 (fun d => (k d).bind q) := by
  simp only [K_Av, bnd_cond, bnd_bind, bnd_none, bnd_sum]
theorem qa_Av : ∀ b, (QA_Av).em b = ([.r (.agg [.c (.f (.i .u64 b.1.1.1)), .c (.f (.i .u64 b.1.1.2.1))]), rB b.1.2.1], []) := fun b => by kernel_rfl
theorem e_Av {f : (Int) → (Int) → (Bool) → Option (Int × Int × Bool)} {args : List AV} {h : List Blk} {r : Res} (hr : (F_Av f args h).eval = some r) : ∃ x0 x1 x2, args = [.r (.agg [.c (.f (.i .u64 x0)), .c (.f (.i .u64 x1))]), rB x2] ∧ h = [] ∧ (f x0 x1 x2).bind (fun (d : Int × Int × Bool) => some (Res.mk (AV.tup [RV.agg [sI d.1, sU d.2.1], RV.c (CV.f (FV.b d.2.2))]) [] [])) = some r := by
  unfold F_Av at hr
  split at hr
  · rename_i b hb
    have e := ((QA_Av).ok _ _ hb).trans (qa_Av b)
    rw [opt_eval2] at hr
    exact ⟨b.1.1.1, b.1.1.2.1, b.1.2.1, (Prod.mk.inj e).1, (Prod.mk.inj e).2, hr⟩
  · cases hr
theorem n_Av {σ : Type} (q : (Int × Int × Bool) → Option σ) (x0 : Int) (x1 : Int) (x2 : Bool) : (f_Av x0 x1 x2).bind q = K_Av f_Add64  x0 x1 x2 q := by
  unfold f_Av
  exact m_Av q f_Add64   x0 x1 x2 some
theorem s_Av [Amb] : Sound Try.prog 77 (F_Av f_Av) := (inl_sound (l := [(91, F_carry f_Add64)]) (.cons s_Add64 (.nil _)) mixed [] [] 200 (by kernel_rfl)).by (F := F_Av f_Av) fun args b r hr => by
  obtain ⟨x0, x1, x2, rfl, rfl, hr1⟩ := e_Av hr
  exact inl_eval ((d_Av f_Add64  x0 x1 x2).trans ((n_Av (fun (d : Int × Int × Bool) => some (Res.mk (AV.tup [RV.agg [sI d.1, sU d.2.1], RV.c (CV.f (FV.b d.2.2))]) [] [])) x0 x1 x2).symm.trans hr1))

def K_BA {ρ : Type} (g_Ak : t7GN1) (g_BQ : t8GN1) (g_Av : t9GN1) (x0 : Int) (x1 : Int) (k : (Int × Int) → Option ρ) : Option ρ := Option.bind (g_Ak x0) fun (d : Int) => Option.bind (g_Ak x1) fun (d_1 : Int) => Option.bind (g_BQ d d_1) fun (d : Int ×
 Int) => Option.bind (g_Av d.1 d.2 !decide (x0 < 0) == decide (x1 < 0)) fun (d : Int × Int × Bool) => k (d.1, d.2.1)
def f_BA (x0 : Int) (x1 : Int) : Option (Int × Int) := K_BA f_Ak f_BQ f_Av  x0 x1 some
section
open Go.Ab.Rdr
def QA_BA := ((pair (cons (ar (rc (cf (fi .i64 hole)))) (cons (ar (rc (cf (fi .i64 hole)))) nil)) nil) : Rdr (List AV × List Blk) _)
end
def F_BA (f : (Int) → (Int) → Option (Int × Int)) : Sem1 := fun args h => match (QA_BA).rd (args, h) with
  | some b => .opt (f b.1.1 b.1.2.1) fun (d : Int × Int) => .leaf (Res.mk (AV.r (RV.agg [sI d.1, sU d.2])) [] [])
  | none => .fail
theorem d_BA (g_Ak : t7GN1) (g_BQ : t8GN1) (g_Av : t9GN1) (x0 : Int) (x1 : Int) : den Try.prog (envOf [(76, F_Ak g_Ak), (75, F_BQ g_BQ), (77, F_Av g_Av)]) ⟨[], [], [], [], none⟩ 200 51 [rI x0, rI x1] [] = K_BA g_Ak g_BQ g_Av x0 x1 (fun (d : Int ×
 Int) => some (Res.mk (AV.r (RV.agg [sI d.1, sU d.2])) [] [])) := by kernel_rfl
theorem m_BA {ρ σ : Type} (q : ρ → Option σ) (g_Ak : t7GN1) (g_BQ : t8GN1) (g_Av : t9GN1)   (x0 : Int) (x1 : Int) (k : (Int × Int) → Option ρ) : (K_BA g_Ak g_BQ g_Av  x0 x1 k).bind q = K_BA g_Ak g_BQ g_Av  x0 x1 (fun d => (k d).bind q) := by
  simp only [K_BA, bnd_cond, bnd_bind, bnd_none, bnd_sum]
theorem qa_BA : ∀ b, (QA_BA).em b = ([rI b.1.1, rI b.1.2.1], []) := fun b => by kernel_rfl
theorem e_BA {f : (Int) → (Int) → Option (Int × Int)} {args : List AV} {h : List Blk} {r : Res} (hr : (F_BA f args h).eval = some r) : ∃ x0 x1, args = [rI x0, rI x1] ∧ h = [] ∧ (f x0 x1).bind (fun (d : Int × Int) => some (Res.mk (AV.r (RV.agg [sI d.1, sU d.2])) [] [])) = some r := by
  unfold F_BA at hr
  split at hr
  · rename_i b hb
    have e := ((QA_BA).ok _ _ hb).trans (qa_BA b)
    rw [opt_eval2] at hr
    exact ⟨b.1.1, b.1.2.1, (Prod.mk.inj e).1, (Prod.mk.inj e).2, hr⟩
  · cases hr
theorem n_BA {σ : Type} (q : (Int × Int) → Option σ) (x0 : Int) (x1 : Int) : (f_BA x0 x1).bind q = K_BA f_Ak f_BQ f_Av  x0 x1 q := by
  unfold f_BA
  exact m_BA q f_Ak f_BQ f_Av   x0 x1 some
theorem s_BA [Amb] : Sound Try.prog 51 (F_BA f_BA) := (inl_sound (l := [(76, F_Ak f_Ak), (75, F_BQ f_BQ), (77, F_Av f_Av)]) (.cons s_Ak (.cons s_BQ (.cons s_Av (.nil _)))) mixed [] [] 200 (by kernel_rfl)).by (F := F_BA f_BA) fun args b r hr => by
  obtain ⟨x0, x1, rfl, rfl, hr1⟩ := e_BA hr
  exact inl_eval ((d_BA f_Ak f_BQ f_Av  x0 x1).trans ((n_BA (fun (d : Int × Int) => some (Res.mk (AV.r (RV.agg [sI d.1, sU d.2])) [] [])) x0 x1).symm.trans hr1))

def K_BH {ρ : Type} (x0 : Bool) (k : (Int) → Option ρ) : Option ρ := bif x0 then k (-1152921504606846976) else k 1152921504606846976
def f_BH (x0 : Bool) : Option (Int) := K_BH   x0 some
section
open Go.Ab.Rdr
def QA_BH := ((pair (cons (ar (rc (cf (fb hole)))) nil) nil) : Rdr (List AV × List Blk) _)
end
def F_BH (f : (Bool) → Option (Int)) : Sem1 := fun args h => match (QA_BH).rd (args, h) with
  | some b => .opt (f b.1.1) fun (d : Int) => .leaf (Res.mk (rI d) [] [])
  | none => .fail
theorem d_BH (x0 : Bool) : den Try.prog (envOf []) ⟨[], [], [], [], none⟩ 200 73 [rB x0] [] = K_BH x0 (fun (d : Int) => some (Res.mk (rI d) [] [])) := by kernel_rfl
theorem m_BH {ρ σ : Type} (q : ρ → Option σ)    (x0 : Bool) (k : (Int) → Option ρ) : (K_BH   x0 k).bind q = K_BH   x0 (fun d => (k d).bind q) := by
  simp only [K_BH, bnd_cond, bnd_bind, bnd_none, bnd_sum]
theorem qa_BH : ∀ b, (QA_BH).em b = ([rB b.1.1], []) := fun b => by kernel_rfl
theorem e_BH {f : (Bool) → Option (Int)} {args : List AV} {h : List Blk} {r : Res} (hr : (F_BH f args h).eval = some r) : ∃ x0, args = [rB x0] ∧ h = [] ∧ (f x0).bind (fun (d : Int) => some (Res.mk (rI d) [] [])) = some r := by
  unfold F_BH at hr
  split at hr
  · rename_i b hb
    have e := ((QA_BH).ok _ _ hb).trans (qa_BH b)
    rw [opt_eval2] at hr
    exact ⟨b.1.1, (Prod.mk.inj e).1, (Prod.mk.inj e).2, hr⟩
  · cases hr
theorem n_BH {σ : Type} (q : (Int) → Option σ) (x0 : Bool) : (f_BH x0).bind q = K_BH   x0 q := by
  unfold f_BH
  exact m_BH q    x0 some
theorem s_BH [Amb] : Sound Try.prog 73 (F_BH f_BH) := (inl_sound (l := []) (.nil _) mixed [] [] 200 (by kernel_rfl)).by (F := F_BH f_BH) fun args b r hr => by
  obtain ⟨x0, rfl, rfl, hr1⟩ := e_BH hr
  exact inl_eval ((d_BH   x0).trans ((n_BH (fun (d : Int) => some (Res.mk (rI d) [] [])) x0).symm.trans hr1))

def K_BB {ρ : Type} (g_Add64 : C3) (x0 : Int) (x1 : Int) (k : (Int × Int × Bool) → Option ρ) : Option ρ := bif decide (x0 ≥ 0) then k (IntKind.wrap .u64 x0, x1, false) else Option.bind (g_Add64 (IntKind.wrap .u64 (Int.ofNat (BitVec.toNat (BitVec.ofInt 64 18446744073709551615 ^^^ BitVec.ofInt 64 x1)))) 1 0) fun (d : Int ×
 Int) => k (IntKind.wrap .u64 (IntKind.wrap .u64 (Int.ofNat (BitVec.toNat (BitVec.ofInt 64 18446744073709551615 ^^^ BitVec.ofInt 64 (IntKind.wrap .u64 x0)))) + d.2), d.1, true)
def f_BB (x0 : Int) (x1 : Int) : Option (Int × Int × Bool) := K_BB f_Add64  x0 x1 some
section
open Go.Ab.Rdr
def QA_BB := ((pair (cons (ar (ra (cons (gc (cf (fi .i64 hole))) (cons (gc (cf (fi .u64 hole))) nil)))) nil) nil) : Rdr (List AV × List Blk) _)
end
def F_BB (f : (Int) → (Int) → Option (Int × Int × Bool)) : Sem1 := fun args h => match (QA_BB).rd (args, h) with
  | some b => .opt (f b.1.1.1 b.1.1.2.1) fun (d : Int × Int × Bool) => .leaf (Res.mk (AV.tup [RV.agg [sU d.1, sU d.2.1], RV.c (CV.f (FV.b d.2.2))]) [] [])
  | none => .fail
theorem d_BB (g_Add64 : C3) (x0 : Int) (x1 : Int) : den Try.prog (envOf [(91, F_carry g_Add64)]) ⟨[], [], [], [], none⟩ 200 82 [.r (.agg [.c (.f (.i .i64 x0)), .c (.f (.i .u64 x1))])] [] = K_BB g_Add64 x0 x1 (fun (d : Int × Int × Bool) => some (Res.mk (AV.tup [RV.agg [sU d.1,
 sU d.2.1], RV.c (CV.f (FV.b d.2.2))]) [] [])) := by kernel_rfl
theorem m_BB {ρ σ : Type} (q : ρ → Option σ) (g_Add64 : C3)   (x0 : Int) (x1 : Int) (k : (Int × Int × Bool) → Option ρ) : (K_BB g_Add64  x0 x1 k).bind q = K_BB g_Add64  x0 x1 (fun d => (k d).bind q) := by
  simp only [K_BB, bnd_cond, bnd_bind, bnd_none, bnd_sum]
theorem qa_BB : ∀ b, (QA_BB).em b = ([.r (.agg [.c (.f (.i .i64 b.1.1.1)), .c (.f (.i .u64 b.1.1.2.1))])], []) := fun b => by kernel_rfl
theorem e_BB {f : (Int) → (Int) → Option (Int × Int × Bool)} {args : List AV} {h : List Blk} {r : Res} (hr : (F_BB f args h).eval = some r) : ∃ x0 x1, args = [.r (.agg [.c (.f (.i .i64 x0)), .c (.f (.i .u64 x1))])] ∧ h = [] ∧ (f x0 x1).bind (fun (d : Int × Int × Bool) => some (Res.mk (AV.tup [RV.agg [sU d.1, sU d.2.1], RV.c (CV.f (FV.b d.2.2))]) [] [])) = some r := by
  unfold F_BB at hr
  split at hr
  · rename_i b hb
    have e := ((QA_BB).ok _ _ hb).trans (qa_BB b)
    rw [opt_eval2] at hr
    exact ⟨b.1.1.1, b.1.1.2.1, (Prod.mk.inj e).1, (Prod.mk.inj e).2, hr⟩
  · cases hr
theorem n_BB {σ : Type} (q : (Int × Int × Bool) → Option σ) (x0 : Int) (x1 : Int) : (f_BB x0 x1).bind q = K_BB f_Add64  x0 x1 q := by
  unfold f_BB
  exact m_BB q f_Add64   x0 x1 some
theorem s_BB [Amb] : Sound Try.prog 82 (F_BB f_BB) := (inl_sound (l := [(91, F_carry f_Add64)]) (.cons s_Add64 (.nil _)) mixed [] [] 200 (by kernel_rfl)).by (F := F_BB f_BB) fun args b r hr => by
  obtain ⟨x0, x1, rfl, rfl, hr1⟩ := e_BB hr
  exact inl_eval ((d_BB f_Add64  x0 x1).trans ((n_BB (fun (d : Int × Int × Bool) => some (Res.mk (AV.tup [RV.agg [sU d.1, sU d.2.1], RV.c (CV.f (FV.b d.2.2))]) [] [])) x0 x1).symm.trans hr1))

def S_I_2 {ρ : Type} (x0 : Int) (x1 : Int) (c : (Int × Int) → Option ρ) (x : (Int) → Option ρ) : Option ρ := bif inR (IntKind.wrap .u8 x0) 256 then x (IntKind.wrap .i64 (x1 + IntKind.wrap .i64 (byteAt (ByteArray.mk (List.toArray (List.append (List.append [0, 1, 2, 2, 3, 3, 3, 3,
 4, 4, 4, 4, 4, 4, 4, 4, 5, 5, 5, 5, 5, 5, 5, 5, 5, 5, 5, 5, 5, 5, 5, 5, 6, 6, 6, 6, 6, 6, 6, 6, 6, 6, 6, 6, 6, 6, 6, 6, 6, 6, 6, 6, 6, 6, 6, 6, 6, 6, 6, 6, 6, 6, 6, 6] [7, 7, 7, 7, 7, 7, 7, 7, 7, 7, 7, 7, 7, 7, 7, 7, 7, 7, 7, 7, 7, 7, 7, 7, 7, 7, 7, 7, 7, 7, 7, 7, 7, 7, 7, 7, 7, 7, 7, 7, 7, 7, 7, 7,
 7, 7, 7, 7, 7, 7, 7, 7, 7, 7, 7, 7, 7, 7, 7, 7, 7, 7, 7, 7]) (List.append [8, 8, 8, 8, 8, 8, 8, 8, 8, 8, 8, 8, 8, 8, 8, 8, 8, 8, 8, 8, 8, 8, 8, 8, 8, 8, 8, 8, 8, 8, 8, 8, 8, 8, 8, 8, 8, 8, 8, 8, 8, 8, 8, 8, 8, 8, 8, 8, 8, 8, 8, 8, 8, 8, 8, 8, 8, 8, 8, 8, 8, 8, 8, 8] [8, 8, 8, 8, 8, 8, 8, 8, 8, 8, 8,
 8, 8, 8, 8, 8, 8, 8, 8, 8, 8, 8, 8, 8, 8, 8, 8, 8, 8, 8, 8, 8, 8, 8, 8, 8, 8, 8, 8, 8, 8, 8, 8, 8, 8, 8, 8, 8, 8, 8, 8, 8, 8, 8, 8, 8, 8, 8, 8, 8, 8, 8, 8, 8])))) (Int.toNat (IntKind.wrap .u8 x0))))) else none
section
open Go.Ab.Rdr
def Q_I_2 := (st (cons (ar (rc (cf (fi .u64 hole)))) (cons aund (cons (ar (rc (cf (fi .i64 hole)))) (cons aund (cons aund (cons aund (cons aund (cons aund (cons aund (cons aund (cons aund (cons aund (cons aund (cons aund (cons aund (cons aund (cons aund (cons aund (cons aund (cons aund (cons aund (cons aund (cons aund (cons aund (cons aund nil))))))))))))))))))))))))) nil nil)
end
theorem q_I_2 : ∀ b, (Q_I_2).em b = St.mk [rU b.1.1, un, rI b.1.2.2.1, un, un, un, un, un, un, un, un, un, un, un, un, un, un, un, un, un, un, un, un,
 un, un] [] [] := fun b => by kernel_rfl
def R_I_2 (l : ∀ {ρ : Type}, (Int × Int) → ((Int) → Option ρ) → Option ρ) {ρ : Type} (s : St) (K : AX → St → Option ρ) : Option ρ := ((Q_I_2).rd s).bind fun b => l (b.1.1, b.1.2.2.1) (fun d => K (AX.ret) (St.mk [un, un, rI d, un, un, un, un,
 un, un, un, un, un, un, un, un, un, un, un, un, un, un, un, un, un, un] [] []))
theorem ms_I_2 {ρ σ : Type}    (q : ρ → Option σ) (x0 : Int) (x1 : Int) (c : (Int × Int) → Option ρ) (x : (Int) → Option ρ) : (S_I_2   x0 x1 c x).bind q = S_I_2   x0 x1 (fun d => (c d).bind q) (fun d => (x d).bind q) := by
  simp only [S_I_2, bnd_cond, bnd_bind, bnd_none, bnd_sum]
def L_I_2 {ρ : Type} (d : Int × Int) (k : (Int) → Option ρ) : Option ρ := S_I_2   d.1 d.2 (fun _ => none) k
theorem mL_I_2 {ρ σ : Type} (q : ρ → Option σ) (d : Int × Int) (k : (Int) → Option ρ) : (L_I_2 d k).bind q = L_I_2 d fun x => (k x).bind q := ms_I_2 q d.1 d.2 (fun _ => none) k
def S_I_1 {ρ : Type} (l_2 : ∀ {ρ : Type}, (Int × Int) → ((Int) → Option ρ) → Option ρ) (x0 : Int) (x1 : Int) (c : (Int × Int) → Option ρ) (x : (Int) → Option ρ) : Option ρ := bif decide (x0 ≥ 256) then l_2 (Int.fdiv x0 256, IntKind.wrap .i64 (x1 + 8)) fun (d : Int) => x d else l_2 (x0, x1) fun (d : Int) => x d
section
open Go.Ab.Rdr
def Q_I_1 := (st (cons (ar (rc (cf (fi .u64 hole)))) (cons aund (cons (ar (rc (cf (fi .i64 hole)))) (cons aund (cons aund (cons aund (cons aund (cons aund (cons aund (cons aund (cons aund (cons aund (cons aund (cons aund (cons aund (cons aund (cons aund (cons aund (cons aund (cons aund (cons aund (cons aund (cons aund (cons aund (cons aund nil))))))))))))))))))))))))) nil nil)
end
theorem q_I_1 : ∀ b, (Q_I_1).em b = St.mk [rU b.1.1, un, rI b.1.2.2.1, un, un, un, un, un, un, un, un, un, un, un, un, un, un, un, un, un, un, un, un,
 un, un] [] [] := fun b => by kernel_rfl
def R_I_1 (l : ∀ {ρ : Type}, (Int × Int) → ((Int) → Option ρ) → Option ρ) {ρ : Type} (s : St) (K : AX → St → Option ρ) : Option ρ := ((Q_I_1).rd s).bind fun b => l (b.1.1, b.1.2.2.1) (fun d => K (AX.ret) (St.mk [un, un, rI d, un, un, un, un,
 un, un, un, un, un, un, un, un, un, un, un, un, un, un, un, un, un, un] [] []))
theorem ms_I_1 {ρ σ : Type}  (l_2 : ∀ {ρ : Type}, (Int × Int) → ((Int) → Option ρ) → Option ρ) (hl_2 : ∀ {ρ σ : Type} (q : ρ → Option σ) (d : Int × Int) (k : (Int) → Option ρ), (l_2 d k).bind q = l_2 d fun x => (k x).bind q) (q : ρ → Option σ) (x0 : Int) (x1 : Int) (c : (Int × Int) → Option ρ) (x : (Int) → Option ρ) : (S_I_1  (@l_2) x0 x1 c x).bind q = S_I_1  (@l_2) x0 x1 (fun d => (c d).bind q) (fun d => (x d).bind q) := by
  simp only [S_I_1, bnd_cond, bnd_bind, bnd_none, bnd_sum, hl_2]
def L_I_1 {ρ : Type} (d : Int × Int) (k : (Int) → Option ρ) : Option ρ := S_I_1  (@L_I_2) d.1 d.2 (fun _ => none) k
theorem mL_I_1 {ρ σ : Type} (q : ρ → Option σ) (d : Int × Int) (k : (Int) → Option ρ) : (L_I_1 d k).bind q = L_I_1 d fun x => (k x).bind q := ms_I_1 (@L_I_2) (fun q d k => mL_I_2 q d k) q d.1 d.2 (fun _ => none) k
def S_I_0 {ρ : Type} (l_1 : ∀ {ρ : Type}, (Int × Int) → ((Int) → Option ρ) → Option ρ) (x0 : Int) (x1 : Int) (c : (Int × Int) → Option ρ) (x : (Int) → Option ρ) : Option ρ := bif decide (x0 ≥ 65536) then l_1 (Int.fdiv x0 65536, IntKind.wrap .i64 (x1 + 16)) fun (d : Int) => x d else l_1 (x0, x1) fun (d : Int) => x d
section
open Go.Ab.Rdr
def Q_I_0 := (st (cons (ar (rc (cf (fi .u64 hole)))) (cons aund (cons (ar (rc (cf (fi .i64 hole)))) (cons aund (cons aund (cons aund (cons aund (cons aund (cons aund (cons aund (cons aund (cons aund (cons aund (cons aund (cons aund (cons aund (cons aund (cons aund (cons aund (cons aund (cons aund (cons aund (cons aund (cons aund (cons aund nil))))))))))))))))))))))))) nil nil)
end
theorem q_I_0 : ∀ b, (Q_I_0).em b = St.mk [rU b.1.1, un, rI b.1.2.2.1, un, un, un, un, un, un, un, un, un, un, un, un, un, un, un, un, un, un, un, un,
 un, un] [] [] := fun b => by kernel_rfl
def R_I_0 (l : ∀ {ρ : Type}, (Int × Int) → ((Int) → Option ρ) → Option ρ) {ρ : Type} (s : St) (K : AX → St → Option ρ) : Option ρ := ((Q_I_0).rd s).bind fun b => l (b.1.1, b.1.2.2.1) (fun d => K (AX.ret) (St.mk [un, un, rI d, un, un, un, un,
 un, un, un, un, un, un, un, un, un, un, un, un, un, un, un, un, un, un] [] []))
theorem ms_I_0 {ρ σ : Type}  (l_1 : ∀ {ρ : Type}, (Int × Int) → ((Int) → Option ρ) → Option ρ) (hl_1 : ∀ {ρ σ : Type} (q : ρ → Option σ) (d : Int × Int) (k : (Int) → Option ρ), (l_1 d k).bind q = l_1 d fun x => (k x).bind q) (q : ρ → Option σ) (x0 : Int) (x1 : Int) (c : (Int × Int) → Option ρ) (x : (Int) → Option ρ) : (S_I_0  (@l_1) x0 x1 c x).bind q = S_I_0  (@l_1) x0 x1 (fun d => (c d).bind q) (fun d => (x d).bind q) := by
  simp only [S_I_0, bnd_cond, bnd_bind, bnd_none, bnd_sum, hl_1]
def L_I_0 {ρ : Type} (d : Int × Int) (k : (Int) → Option ρ) : Option ρ := S_I_0  (@L_I_1) d.1 d.2 (fun _ => none) k
theorem mL_I_0 {ρ σ : Type} (q : ρ → Option σ) (d : Int × Int) (k : (Int) → Option ρ) : (L_I_0 d k).bind q = L_I_0 d fun x => (k x).bind q := ms_I_0 (@L_I_1) (fun q d k => mL_I_1 q d k) q d.1 d.2 (fun _ => none) k
theorem ds_I_2 {ρ : Type} (l_2 : ∀ {ρ : Type}, (Int × Int) → ((Int) → Option ρ) → Option ρ) (l_1 : ∀ {ρ : Type}, (Int × Int) → ((Int) → Option ρ) → Option ρ) (l_0 : ∀ {ρ : Type}, (Int × Int) → ((Int) → Option ρ) → Option ρ) (x0 : Int) (x1 : Int) (K : AX → St → Option ρ) : runC Try.prog (envOf []) ⟨[],
 [], [], [⟨⟨4, u1GN1, []⟩, ⟨4, 0, @R_I_0 (@l_0)⟩⟩, ⟨⟨7, u1GN1, []⟩, ⟨7, 0, @R_I_1 (@l_1)⟩⟩, ⟨⟨10, u1GN1, []⟩, ⟨10, 0, @R_I_2 (@l_2)⟩⟩], (some ⟨0, u2GN1, []⟩)⟩ (tmpsOf Try.prog 96) 0 200 (joinIn Try.prog 96 10) (St.mk [rU x0, un, rI x1,
 un, un, un, un, un, un, un, un, un, un, un, un, un, un, un, un, un, un, un, un, un, un] [] []) K = S_I_2 x0 x1 (fun _ => none) (fun d => K (AX.ret) (St.mk [un, un, rI d,
 un, un, un, un, un, un, un, un, un, un, un, un, un, un, un, un, un, un, un, un, un, un] [] [])) := by kernel_rfl
theorem so_I_2 [Amb] : ∀ kk, JnOK Try.prog (envOf []) ⟨[], [], [], [⟨⟨4, u1GN1, []⟩, ⟨4, 0, @R_I_0 (@L_I_0)⟩⟩, ⟨⟨7, u1GN1, []⟩, ⟨7, 0, @R_I_1 (@L_I_1)⟩⟩,
 ⟨⟨10, u1GN1, []⟩, ⟨10, 0, @R_I_2 (@L_I_2)⟩⟩], (some ⟨0, u2GN1, []⟩)⟩ (tmpsOf Try.prog 96) kk 200 (joinIn Try.prog 96 10) := JnOK.of (id := 10) (k0 := 0) (hd := ⟨10,
 u1GN1, []⟩) (run := @R_I_2 (@L_I_2)) (by kernel_rfl) fun s K r hr => by
    unfold R_I_2 at hr
    obtain ⟨b, hb, hr1⟩ := Option.bind_eq_some_iff.1 hr
    have e := ((Q_I_2).ok s b hb).trans (q_I_2 b)
    subst e
    exact (ds_I_2  (@L_I_2) (@L_I_1) (@L_I_0) b.1.1 b.1.2.2.1 K).trans hr1
theorem ds_I_1 {ρ : Type} (l_2 : ∀ {ρ : Type}, (Int × Int) → ((Int) → Option ρ) → Option ρ) (l_1 : ∀ {ρ : Type}, (Int × Int) → ((Int) → Option ρ) → Option ρ) (l_0 : ∀ {ρ : Type}, (Int × Int) → ((Int) → Option ρ) → Option ρ) (x0 : Int) (x1 : Int) (K : AX → St → Option ρ) : runC Try.prog (envOf []) ⟨[],
 [], [], [⟨⟨4, u1GN1, []⟩, ⟨4, 0, @R_I_0 (@l_0)⟩⟩, ⟨⟨7, u1GN1, []⟩, ⟨7, 0, @R_I_1 (@l_1)⟩⟩, ⟨⟨10, u1GN1, []⟩, ⟨10, 0, @R_I_2 (@l_2)⟩⟩], (some ⟨0, u2GN1, []⟩)⟩ (tmpsOf Try.prog 96) 0 200 (joinIn Try.prog 96 7) (St.mk [rU x0, un, rI x1,
 un, un, un, un, un, un, un, un, un, un, un, un, un, un, un, un, un, un, un, un, un, un] [] []) K = S_I_1 (@l_2) x0 x1 (fun _ => none) (fun d => K (AX.ret) (St.mk [un, un, rI d,
 un, un, un, un, un, un, un, un, un, un, un, un, un, un, un, un, un, un, un, un, un, un] [] [])) := by kernel_rfl
theorem so_I_1 [Amb] : ∀ kk, JnOK Try.prog (envOf []) ⟨[], [], [], [⟨⟨4, u1GN1, []⟩, ⟨4, 0, @R_I_0 (@L_I_0)⟩⟩, ⟨⟨7, u1GN1, []⟩, ⟨7, 0, @R_I_1 (@L_I_1)⟩⟩,
 ⟨⟨10, u1GN1, []⟩, ⟨10, 0, @R_I_2 (@L_I_2)⟩⟩], (some ⟨0, u2GN1, []⟩)⟩ (tmpsOf Try.prog 96) kk 200 (joinIn Try.prog 96 7) := JnOK.of (id := 7) (k0 := 0) (hd := ⟨7,
 u1GN1, []⟩) (run := @R_I_1 (@L_I_1)) (by kernel_rfl) fun s K r hr => by
    unfold R_I_1 at hr
    obtain ⟨b, hb, hr1⟩ := Option.bind_eq_some_iff.1 hr
    have e := ((Q_I_1).ok s b hb).trans (q_I_1 b)
    subst e
    exact (ds_I_1  (@L_I_2) (@L_I_1) (@L_I_0) b.1.1 b.1.2.2.1 K).trans hr1
theorem ds_I_0 {ρ : Type} (l_2 : ∀ {ρ : Type}, (Int × Int) → ((Int) → Option ρ) → Option ρ) (l_1 : ∀ {ρ : Type}, (Int × Int) → ((Int) → Option ρ) → Option ρ) (l_0 : ∀ {ρ : Type}, (Int × Int) → ((Int) → Option ρ) → Option ρ) (x0 : Int) (x1 : Int) (K : AX → St → Option ρ) : runC Try.prog (envOf []) ⟨[],
 [], [], [⟨⟨4, u1GN1, []⟩, ⟨4, 0, @R_I_0 (@l_0)⟩⟩, ⟨⟨7, u1GN1, []⟩, ⟨7, 0, @R_I_1 (@l_1)⟩⟩, ⟨⟨10, u1GN1, []⟩, ⟨10, 0, @R_I_2 (@l_2)⟩⟩], (some ⟨0, u2GN1, []⟩)⟩ (tmpsOf Try.prog 96) 0 200 (joinIn Try.prog 96 4) (St.mk [rU x0, un, rI x1,
 un, un, un, un, un, un, un, un, un, un, un, un, un, un, un, un, un, un, un, un, un, un] [] []) K = S_I_0 (@l_1) x0 x1 (fun _ => none) (fun d => K (AX.ret) (St.mk [un, un, rI d,
 un, un, un, un, un, un, un, un, un, un, un, un, un, un, un, un, un, un, un, un, un, un] [] [])) := by kernel_rfl
theorem so_I_0 [Amb] : ∀ kk, JnOK Try.prog (envOf []) ⟨[], [], [], [⟨⟨4, u1GN1, []⟩, ⟨4, 0, @R_I_0 (@L_I_0)⟩⟩, ⟨⟨7, u1GN1, []⟩, ⟨7, 0, @R_I_1 (@L_I_1)⟩⟩,
 ⟨⟨10, u1GN1, []⟩, ⟨10, 0, @R_I_2 (@L_I_2)⟩⟩], (some ⟨0, u2GN1, []⟩)⟩ (tmpsOf Try.prog 96) kk 200 (joinIn Try.prog 96 4) := JnOK.of (id := 4) (k0 := 0) (hd := ⟨4,
 u1GN1, []⟩) (run := @R_I_0 (@L_I_0)) (by kernel_rfl) fun s K r hr => by
    unfold R_I_0 at hr
    obtain ⟨b, hb, hr1⟩ := Option.bind_eq_some_iff.1 hr
    have e := ((Q_I_0).ok s b hb).trans (q_I_0 b)
    subst e
    exact (ds_I_0  (@L_I_2) (@L_I_1) (@L_I_0) b.1.1 b.1.2.2.1 K).trans hr1
def K_I {ρ : Type} (l_2 : ∀ {ρ : Type}, (Int × Int) → ((Int) → Option ρ) → Option ρ) (l_1 : ∀ {ρ : Type}, (Int × Int) → ((Int) → Option ρ) → Option ρ) (l_0 : ∀ {ρ : Type}, (Int × Int) → ((Int) → Option ρ) → Option ρ) (x0 : Int) (k : (Int) → Option ρ) : Option ρ := bif decide (x0 ≥ 4294967296) then l_0 (Int.fdiv x0 4294967296,
 32) fun (d : Int) => k d else l_0 (x0, 0) fun (d : Int) => k d
def f_I (x0 : Int) : Option (Int) := K_I  (@L_I_2) (@L_I_1) (@L_I_0) x0 some
section
open Go.Ab.Rdr
def QA_I := ((pair (cons (ar (rc (cf (fi .u64 hole)))) nil) nil) : Rdr (List AV × List Blk) _)
end
def F_I (f : (Int) → Option (Int)) : Sem1 := fun args h => match (QA_I).rd (args, h) with
  | some b => .opt (f b.1.1) fun (d : Int) => .leaf (Res.mk (rI d) [] [])
  | none => .fail
theorem d_I (l_2 : ∀ {ρ : Type}, (Int × Int) → ((Int) → Option ρ) → Option ρ) (l_1 : ∀ {ρ : Type}, (Int × Int) → ((Int) → Option ρ) → Option ρ) (l_0 : ∀ {ρ : Type}, (Int × Int) → ((Int) → Option ρ) → Option ρ) (x0 : Int) : den Try.prog (envOf []) ⟨[], [], [], [⟨⟨4, u1GN1, []⟩, ⟨4, 0, @R_I_0 (@l_0)⟩⟩, ⟨⟨7, u1GN1, []⟩, ⟨7, 0, @R_I_1 (@l_1)⟩⟩, ⟨⟨10, u1GN1, []⟩, ⟨10, 0,
 @R_I_2 (@l_2)⟩⟩], (some ⟨0, u2GN1, []⟩)⟩ 200 96 [rU x0] [] = K_I (@l_2) (@l_1) (@l_0) x0 (fun (d : Int) => some (Res.mk (rI d) [] [])) := by kernel_rfl
theorem m_I {ρ σ : Type} (q : ρ → Option σ)  (l_2 : ∀ {ρ : Type}, (Int × Int) → ((Int) → Option ρ) → Option ρ) (l_1 : ∀ {ρ : Type}, (Int × Int) → ((Int) → Option ρ) → Option ρ) (l_0 : ∀ {ρ : Type}, (Int × Int) → ((Int) → Option ρ) → Option ρ) (hl_2 : ∀ {ρ σ : Type} (q : ρ → Option σ) (d : Int × Int) (k : (Int) → Option ρ), (l_2 d k).bind q = l_2 d fun x => (k x).bind q) (hl_1 : ∀ {ρ σ : Type} (q : ρ → Option σ) (d : Int × Int) (k : (Int) → Option ρ), (l_1 d k).bind q = l_1 d fun x => (k x).bind q) (hl_0 : ∀ {ρ σ : Type} (q : ρ → Option σ) (d : Int × Int) (k : (Int) → Option ρ), (l_0 d k).bind q = l_0 d fun x => (k x).bind q) (x0 : Int) (k : (Int) → Option ρ) : (K_I  (@l_2) (@l_1) (@l_0) x0 k).bind q = K_I  (@l_2) (@l_1) (@l_0) x0 (fun d => (k d).bind q) := by
  simp only [K_I, bnd_cond, bnd_bind, bnd_none, bnd_sum, hl_2, hl_1, hl_0]
theorem qa_I : ∀ b, (QA_I).em b = ([rU b.1.1], []) := fun b => by kernel_rfl
theorem e_I {f : (Int) → Option (Int)} {args : List AV} {h : List Blk} {r : Res} (hr : (F_I f args h).eval = some r) : ∃ x0, args = [rU x0] ∧ h = [] ∧ (f x0).bind (fun (d : Int) => some (Res.mk (rI d) [] [])) = some r := by
  unfold F_I at hr
  split at hr
  · rename_i b hb
    have e := ((QA_I).ok _ _ hb).trans (qa_I b)
    rw [opt_eval2] at hr
    exact ⟨b.1.1, (Prod.mk.inj e).1, (Prod.mk.inj e).2, hr⟩
  · cases hr
theorem n_I {σ : Type} (q : (Int) → Option σ) (x0 : Int) : (f_I x0).bind q = K_I  (@L_I_2) (@L_I_1) (@L_I_0) x0 q := by
  unfold f_I
  exact m_I q  (@L_I_2) (@L_I_1) (@L_I_0) (fun q d k => mL_I_2 q d k) (fun q d k => mL_I_1 q d k) (fun q d k => mL_I_0 q d k) x0 some
theorem s_I [Amb] : Sound Try.prog 96 (F_I f_I) := (inl_sums (l := []) (.nil _) mixed (hs := ⟨[], [], [], [⟨⟨4, u1GN1, []⟩, ⟨4, 0, @R_I_0 (@L_I_0)⟩⟩, ⟨⟨7, u1GN1, []⟩, ⟨7, 0, @R_I_1 (@L_I_1)⟩⟩, ⟨⟨10, u1GN1, []⟩, ⟨10, 0, @R_I_2 (@L_I_2)⟩⟩], (some ⟨0, u2GN1, []⟩)⟩) (lf := 200) (Sums.by (l := []) (lj := [joinIn Try.prog 96 4,
 joinIn Try.prog 96 7, joinIn Try.prog 96 10]) (by kernel_rfl) trivial (by kernel_rfl) ⟨so_I_0, ⟨so_I_1, ⟨so_I_2, trivial⟩⟩⟩) (by kernel_rfl)).by (F := F_I f_I) fun args b r hr => by
  obtain ⟨x0, rfl, rfl, hr1⟩ := e_I hr
  exact inl_eval ((d_I  (@L_I_2) (@L_I_1) (@L_I_0) x0).trans ((n_I (fun (d : Int) => some (Res.mk (rI d) [] [])) x0).symm.trans hr1))

def K_Am {ρ : Type} (g_I : t7GN1) (x0 : Int) (k : (Int) → Option ρ) : Option ρ := Option.bind (g_I x0) fun (d : Int) => k (IntKind.wrap .i64 (64 - d))
def f_Am (x0 : Int) : Option (Int) := K_Am f_I  x0 some
section
open Go.Ab.Rdr
def QA_Am := ((pair (cons (ar (rc (cf (fi .u64 hole)))) nil) nil) : Rdr (List AV × List Blk) _)
end
def F_Am (f : (Int) → Option (Int)) : Sem1 := fun args h => match (QA_Am).rd (args, h) with
  | some b => .opt (f b.1.1) fun (d : Int) => .leaf (Res.mk (rI d) [] [])
  | none => .fail
theorem d_Am (g_I : t7GN1) (x0 : Int) : den Try.prog (envOf [(96, F_I g_I)]) ⟨[], [], [], [], none⟩ 200 94 [rU x0] [] = K_Am g_I x0 (fun (d : Int) => some (Res.mk (rI d) [] [])) := by kernel_rfl
theorem m_Am {ρ σ : Type} (q : ρ → Option σ) (g_I : t7GN1)   (x0 : Int) (k : (Int) → Option ρ) : (K_Am g_I  x0 k).bind q = K_Am g_I  x0 (fun d => (k d).bind q) := by
  simp only [K_Am, bnd_cond, bnd_bind, bnd_none, bnd_sum]
theorem qa_Am : ∀ b, (QA_Am).em b = ([rU b.1.1], []) := fun b => by kernel_rfl
theorem e_Am {f : (Int) → Option (Int)} {args : List AV} {h : List Blk} {r : Res} (hr : (F_Am f args h).eval = some r) : ∃ x0, args = [rU x0] ∧ h = [] ∧ (f x0).bind (fun (d : Int) => some (Res.mk (rI d) [] [])) = some r := by
  unfold F_Am at hr
  split at hr
  · rename_i b hb
    have e := ((QA_Am).ok _ _ hb).trans (qa_Am b)
    rw [opt_eval2] at hr
    exact ⟨b.1.1, (Prod.mk.inj e).1, (Prod.mk.inj e).2, hr⟩
  · cases hr
theorem n_Am {σ : Type} (q : (Int) → Option σ) (x0 : Int) : (f_Am x0).bind q = K_Am f_I  x0 q := by
  unfold f_Am
  exact m_Am q f_I   x0 some
theorem s_Am [Amb] : Sound Try.prog 94 (F_Am f_Am) := (inl_sound (l := [(96, F_I f_I)]) (.cons s_I (.nil _)) mixed [] [] 200 (by kernel_rfl)).by (F := F_Am f_Am) fun args b r hr => by
  obtain ⟨x0, rfl, rfl, hr1⟩ := e_Am hr
  exact inl_eval ((d_Am f_I  x0).trans ((n_Am (fun (d : Int) => some (Res.mk (rI d) [] [])) x0).symm.trans hr1))

def S_Z_0 {ρ : Type} (g_Am : t7GN1) (x0 : Int) (x1 : Int) (x2 : Int) (x3 : Int) (x4 : Int) (x5 : Int) (x6 : Int) (x7 : Int) (x8 : Int) (c : (Int × Int × Int × Int × Int × Int × Int × Int × Int) → Option ρ) (x : (Int × Int × Int × Int × Int × Int × Int × Int × Int × Int × Bool × Int × Bool ⊕ Int ×
 Int × Int × Int × Int × Int × Int × Int × Int × Int × Bool × Int × Int × Int × Int × Bool × Bool ⊕ Int × Int × Int × Int × Int × Int × Int × Int × Int × Bool × Int × Int × Int × Bool) → Option ρ) : Option ρ := bif decide (x7 ≥ 4294967296) then bif decide (IntKind.wrap .u64 (x8 + x2) ≥ 4294967296) then
 x (Sum.inl (x0, x1, x2, x3, x4, x5, x6, IntKind.wrap .u64 (x7 - 1), IntKind.wrap .u64 (x8 + x2), x7, decide (x7 ≥ 4294967296), x8, decide (IntKind.wrap .u64 (x8 + x2) ≥ 4294967296))) else c (x0, x1, x2, x3, x4, x5, x6, IntKind.wrap .u64 (x7 - 1), IntKind.wrap .u64 (x8 + x2)) else
 bif decide (IntKind.wrap .u64 (x7 * x3) > IntKind.wrap .u64 (IntKind.wrap .u64 (4294967296 * x8) + x5)) then bif decide (IntKind.wrap .u64 (x8 + x2) ≥ 4294967296) then x (Sum.inr (Sum.inl (x0, x1, x2, x3, x4, x5, x6, IntKind.wrap .u64 (x7 - 1), IntKind.wrap .u64 (x8 + x2),
 x7, decide (x7 ≥ 4294967296), IntKind.wrap .u64 (x7 * x3), x8, IntKind.wrap .u64 (4294967296 * x8), IntKind.wrap .u64 (IntKind.wrap .u64 (4294967296 * x8) + x5), decide (IntKind.wrap .u64 (x7 * x3) > IntKind.wrap .u64 (IntKind.wrap .u64 (4294967296 * x8) + x5)),
 decide (IntKind.wrap .u64 (x8 + x2) ≥ 4294967296)))) else c (x0, x1, x2, x3, x4, x5, x6, IntKind.wrap .u64 (x7 - 1), IntKind.wrap .u64 (x8 + x2)) else x (Sum.inr (Sum.inr (x0, x1, x2, x3, x4, x5, x6, x7, x8, decide (x7 ≥ 4294967296), IntKind.wrap .u64 (x7 * x3), IntKind.wrap .u64 (4294967296 * x8),
 IntKind.wrap .u64 (IntKind.wrap .u64 (4294967296 * x8) + x5), decide (IntKind.wrap .u64 (x7 * x3) > IntKind.wrap .u64 (IntKind.wrap .u64 (4294967296 * x8) + x5)))))
section
open Go.Ab.Rdr
def Q_Z_0 := (st (cons aund (cons aund (cons (ar (rc (cf (fi .u64 hole)))) (cons aund (cons aund (cons aund (cons aund (cons aund (cons (ar (rc (cf (fi .u64 hole)))) (cons (ar (rc (cf (fi .u64 hole)))) (cons (ar (rc (cf (fi .u64 hole)))) (cons (ar (rc (cf (fi .u64 hole)))) (cons aund (cons (ar (rc (cf (fi .u64 hole)))) (cons (ar (rc (cf (fi .u64 hole)))) (cons (ar (rc (cf (fi .u64 hole)))) (cons (ar (rc (cf (fi .u64 hole)))) (cons aund (cons aund (cons aund (cons aund (cons aund (cons aund (cons aund (cons aund (cons aund (cons aund (cons aund (cons aund (cons aund (cons aund (cons aund (cons aund (cons aund (cons aund (cons aund (cons aund (cons aund (cons aund (cons aund (cons aund (cons aund (cons aund (cons aund (cons aund (cons aund (cons aund (cons aund (cons aund (cons aund (cons aund (cons aund (cons aund (cons aund (cons aund (cons aund (cons aund (cons aund (cons aund (cons aund (cons aund (cons aund (cons aund (cons aund (cons aund (cons aund (cons aund (cons aund (cons aund (cons aund (cons aund (cons aund (cons aund (cons aund (cons aund (cons aund (cons aund (cons aund (cons aund (cons aund (cons aund (cons aund (cons aund (cons aund (cons aund (cons aund (cons aund (cons aund (cons aund (cons aund (cons aund (cons aund (cons aund (cons aund (cons aund (cons aund (cons aund (cons aund (cons aund (cons aund (cons aund (cons aund (cons aund (cons aund (cons aund (cons (atup nil) (cons (atup nil) (cons (atup nil) (cons (atup nil) (cons (atup nil) (cons (atup nil) (cons (atup nil) (cons (atup nil) (cons aund (cons aund (cons aund (cons aund (cons aund (cons aund (cons aund (cons aund (cons aund (cons aund (cons aund (cons aund (cons aund (cons aund (cons aund (cons aund (cons aund (cons aund (cons aund (cons aund (cons aund (cons aund nil))))))))))))))))))))))))))))))))))))))))))))))))))))))))))))))))))))))))))))))))))))))))))))))))))))))))))))))))))))))))))))))))))))))) nil nil)
end
theorem q_Z_0 : ∀ b, (Q_Z_0).em b = St.mk [un, un, rU b.1.2.2.1, un, un, un, un, un, rU b.1.c8.1, rU b.1.c8.2.1, rU b.1.c8.2.2.1,
 rU b.1.c8.2.2.2.1, un, rU b.1.c8.c4.2.1, rU b.1.c8.c4.2.2.1, rU b.1.c8.c4.2.2.2.1, rU b.1.c16.1,
 un, un, un, un, un, un, un, un, un, un, un, un, un, un, un, un, un, un, un, un, un, un, un, un, un, un, un, un, un, un, un, un, un, un, un, un, un, un,
 un, un, un, un, un, un, un, un, un, un, un, un, un, un, un, un, un, un, un, un, un, un, un, un, un, un, un, un, un, un, un, un, un, un, un, un, un, un,
 un, un, un, un, un, un, un, un, un, un, un, un, AV.tup [], AV.tup [], AV.tup [], AV.tup [], AV.tup [], AV.tup [], AV.tup [], AV.tup [], un, un, un, un, un, un, un, un, un, un, un, un, un, un, un,
 un, un, un, un, un, un, un] [] [] := fun b => by kernel_rfl
def R_Z_0 (l : ∀ {ρ : Type}, (Int × Int × Int × Int × Int × Int × Int × Int × Int) → ((Int × Int × Int × Int × Int × Int × Int × Int × Int × Int × Bool × Int × Bool ⊕ Int × Int × Int × Int × Int × Int × Int × Int × Int × Int × Bool × Int × Int × Int × Int × Bool × Bool ⊕ Int × Int × Int × Int × Int ×
 Int × Int × Int × Int × Bool × Int × Int × Int × Bool) → Option ρ) → Option ρ) {ρ : Type} (s : St) (K : AX → St → Option ρ) : Option ρ := ((Q_Z_0).rd s).bind fun b => l (b.1.2.2.1, b.1.c8.1, b.1.c8.2.1, b.1.c8.2.2.1, b.1.c8.2.2.2.1, b.1.c8.c4.2.1,
 b.1.c8.c4.2.2.1, b.1.c8.c4.2.2.2.1, b.1.c16.1) (Sum.elim (fun d => K (AX.ex 0) (St.mk [un, un, rU d.1, un, un, un, un, un, rU d.2.1, rU d.2.2.1,
 rU d.2.2.2.1, rU d.c4.1, un, rU d.c4.2.1, rU d.c4.2.2.1, rU d.c4.2.2.2.1, rU d.c8.1,
 un, un, un, un, un, un, un, un, un, un, un, un, un, un, un, un, un, un, un, un, un, un, un, un, un, un, un, un, un, un, un, un, un, un, un, un, un, un,
 un, un, un, un, un, un, un, un, un, un, un, un, rU d.c8.2.1, rB d.c8.2.2.1, rB true, AV.tup [], AV.tup [], AV.tup [], AV.tup [], AV.tup [], AV.tup [],
 AV.tup [], AV.tup [], rB true, rU d.c8.2.1, rU d.c4.2.2.2.1, rU d.c8.2.2.2.1, rU d.2.2.1, rU d.c8.1,
 rU d.c8.1, rB d.c8.c4, un, un, un, un, un, un, un, un, un, un, un, un, un, un, un, un, un, un, un, AV.tup [], AV.tup [], AV.tup [], AV.tup [],
 AV.tup [], AV.tup [], AV.tup [], AV.tup [], un, un, un, un, un, un, un, un, un, un, un, un, un, un, un, un, un, un, un, un, un, un] [] [])) (Sum.elim (fun d => K (AX.ex 0) (St.mk [un, un, rU d.1,
 un, un, un, un, un, rU d.2.1, rU d.2.2.1, rU d.2.2.2.1, rU d.c4.1, un, rU d.c4.2.1, rU d.c4.2.2.1,
 rU d.c4.2.2.2.1, rU d.c8.1, un, un, un, un, un, un, un, un, un, un, un, un, un, un, un, un, un, un, un, un, un, un, un, un,
 un, un, un, un, un, un, un, un, un, un, un, un, un, un, un, un, un, un, un, un, un, un, un, un, un, un, rU d.c8.2.1, rB d.c8.2.2.1,
 rB false, rU d.c8.2.1, rU d.2.2.2.1, rU d.c8.2.2.2.1, rU d.c8.c4.1, rU d.c8.c4.2.1,
 rU d.c4.2.1, rU d.c8.c4.2.2.1, rB d.c8.c4.2.2.2.1, rB d.c8.c4.2.2.2.1, rU d.c8.2.1,
 rU d.c4.2.2.2.1, rU d.c8.c4.1, rU d.2.2.1, rU d.c8.1, rU d.c8.1, rB d.c16,
 un, un, un, un, un, un, un, un, un, un, un, un, un, un, un, un, un, un, un, AV.tup [], AV.tup [], AV.tup [], AV.tup [], AV.tup [], AV.tup [], AV.tup [], AV.tup [], un, un, un, un, un, un, un, un,
 un, un, un, un, un, un, un, un, un, un, un, un, un, un] [] [])) (fun d => K (AX.ex 0) (St.mk [un, un, rU d.1, un, un, un, un, un, rU d.2.1, rU d.2.2.1,
 rU d.2.2.2.1, rU d.c4.1, un, rU d.c4.2.1, rU d.c4.2.2.1, rU d.c4.2.2.2.1, rU d.c8.1,
 un, un, un, un, un, un, un, un, un, un, un, un, un, un, un, un, un, un, un, un, un, un, un, un, un, un, un, un, un, un, un, un, un, un, un, un, un, un,
 un, un, un, un, un, un, un, un, un, un, un, un, rU d.c4.2.2.2.1, rB d.c8.2.1, rB false, rU d.c4.2.2.2.1, rU d.2.2.2.1,
 rU d.c8.2.2.1, rU d.c8.1, rU d.c8.2.2.2.1, rU d.c4.2.1, rU d.c8.c4.1,
 rB d.c8.c4.2, rB d.c8.c4.2, un, un, un, un, un, un, un, un, un, un, un, un, un, un, un, un, un, un, un, un, un, un, un, un,
 un, un, AV.tup [], AV.tup [], AV.tup [], AV.tup [], AV.tup [], AV.tup [], AV.tup [], AV.tup [], un, un, un, un, un, un, un, un, un, un, un, un, un, un, un, un, un, un, un, un, un, un] [] []))))
theorem ms_Z_0 {ρ σ : Type} (g_Am : t7GN1) (q : ρ → Option σ) (x0 : Int) (x1 : Int) (x2 : Int) (x3 : Int) (x4 : Int) (x5 : Int) (x6 : Int) (x7 : Int) (x8 : Int) (c : (Int × Int × Int × Int × Int × Int × Int × Int × Int) → Option ρ) (x : (Int × Int × Int × Int × Int × Int × Int × Int × Int ×
 Int × Bool × Int × Bool ⊕ Int × Int × Int × Int × Int × Int × Int × Int × Int × Int × Bool × Int × Int × Int × Int × Bool × Bool ⊕ Int × Int × Int × Int × Int × Int × Int × Int × Int × Bool × Int × Int × Int × Bool) → Option ρ) : (S_Z_0 g_Am x0 x1 x2 x3 x4 x5 x6 x7 x8 c x).bind q = S_Z_0 g_Am x0 x1 x2 x3 x4 x5 x6 x7 x8 (fun d => (c d).bind q) (fun d => (x d).bind q) := by
  simp only [S_Z_0, bnd_cond, bnd_bind, bnd_none, bnd_sum]
def L_Z_0 {ρ : Type} (d : Int × Int × Int × Int × Int × Int × Int × Int × Int) (k : (Int × Int × Int × Int × Int × Int × Int × Int × Int × Int × Bool × Int × Bool ⊕ Int × Int × Int × Int × Int × Int × Int × Int × Int × Int × Bool × Int × Int × Int × Int × Bool × Bool ⊕ Int × Int × Int × Int × Int × Int ×
 Int × Int × Int × Bool × Int × Int × Int × Bool) → Option ρ) : Option ρ := loopK (fun d c x => S_Z_0 f_Am d.1 d.2.1 d.2.2.1 d.2.2.2.1 d.c4.1 d.c4.2.1 d.c4.2.2.1 d.c4.2.2.2.1 d.c8 c x) 200 d k
theorem mL_Z_0 {ρ σ : Type} (q : ρ → Option σ) (d : Int × Int × Int × Int × Int × Int × Int × Int × Int) (k : (Int × Int × Int × Int × Int × Int × Int × Int × Int × Int × Bool × Int × Bool ⊕ Int × Int × Int × Int × Int × Int × Int × Int × Int × Int × Bool × Int × Int × Int × Int × Bool × Bool ⊕ Int ×
 Int × Int × Int × Int × Int × Int × Int × Int × Bool × Int × Int × Int × Bool) → Option ρ) : (L_Z_0 d k).bind q = L_Z_0 d fun x => (k x).bind q := loopK_bind q (fun d c x => ms_Z_0 f_Am q d.1 d.2.1 d.2.2.1 d.2.2.2.1 d.c4.1 d.c4.2.1 d.c4.2.2.1 d.c4.2.2.2.1 d.c8 c x) k _ d
def S_Z_1 {ρ : Type} (g_Am : t7GN1) (x0 : Int) (x1 : Int) (x2 : Int) (x3 : Int) (x4 : Int) (x5 : Int) (x6 : Int) (x7 : Int) (x8 : Int) (c : (Int × Int × Int × Int × Int × Int × Int × Int × Int) → Option ρ) (x : (Int × Int × Int × Int × Int × Int × Int × Int × Int × Int × Bool × Int × Bool ⊕ Int ×
 Int × Int × Int × Int × Int × Int × Int × Int × Int × Bool × Int × Int × Int × Int × Bool × Bool ⊕ Int × Int × Int × Int × Int × Int × Int × Int × Int × Bool × Int × Int × Int × Bool) → Option ρ) : Option ρ := bif decide (x8 ≥ 4294967296) then bif decide (IntKind.wrap .u64 (x6 + x2) ≥ 4294967296) then
 x (Sum.inl (x0, x1, x2, x3, x4, x5, IntKind.wrap .u64 (x6 + x2), x7, IntKind.wrap .u64 (x8 - 1), x8, decide (x8 ≥ 4294967296), x6, decide (IntKind.wrap .u64 (x6 + x2) ≥ 4294967296))) else c (x0, x1, x2, x3, x4, x5, IntKind.wrap .u64 (x6 + x2), x7, IntKind.wrap .u64 (x8 - 1)) else
 bif decide (IntKind.wrap .u64 (x8 * x3) > IntKind.wrap .u64 (IntKind.wrap .u64 (4294967296 * x6) + x4)) then bif decide (IntKind.wrap .u64 (x6 + x2) ≥ 4294967296) then x (Sum.inr (Sum.inl (x0, x1, x2, x3, x4, x5, IntKind.wrap .u64 (x6 + x2), x7, IntKind.wrap .u64 (x8 - 1),
 x8, decide (x8 ≥ 4294967296), IntKind.wrap .u64 (x8 * x3), x6, IntKind.wrap .u64 (4294967296 * x6), IntKind.wrap .u64 (IntKind.wrap .u64 (4294967296 * x6) + x4), decide (IntKind.wrap .u64 (x8 * x3) > IntKind.wrap .u64 (IntKind.wrap .u64 (4294967296 * x6) + x4)),
 decide (IntKind.wrap .u64 (x6 + x2) ≥ 4294967296)))) else c (x0, x1, x2, x3, x4, x5, IntKind.wrap .u64 (x6 + x2), x7, IntKind.wrap .u64 (x8 - 1)) else x (Sum.inr (Sum.inr (x0, x1, x2, x3, x4, x5, x6, x7, x8, decide (x8 ≥ 4294967296), IntKind.wrap .u64 (x8 * x3), IntKind.wrap .u64 (4294967296 * x6),
 IntKind.wrap .u64 (IntKind.wrap .u64 (4294967296 * x6) + x4), decide (IntKind.wrap .u64 (x8 * x3) > IntKind.wrap .u64 (IntKind.wrap .u64 (4294967296 * x6) + x4)))))
section
open Go.Ab.Rdr
def Q_Z_1 := (st (cons aund (cons aund (cons (ar (rc (cf (fi .u64 hole)))) (cons aund (cons aund (cons aund (cons aund (cons aund (cons (ar (rc (cf (fi .u64 hole)))) (cons (ar (rc (cf (fi .u64 hole)))) (cons (ar (rc (cf (fi .u64 hole)))) (cons aund (cons aund (cons aund (cons (ar (rc (cf (fi .u64 hole)))) (cons (ar (rc (cf (fi .u64 hole)))) (cons (ar (rc (cf (fi .u64 hole)))) (cons (ar (rc (cf (fi .u64 hole)))) (cons (ar (rc (cf (fi .u64 hole)))) (cons aund (cons aund (cons aund (cons aund (cons aund (cons aund (cons aund (cons aund (cons aund (cons aund (cons aund (cons aund (cons aund (cons aund (cons aund (cons aund (cons aund (cons aund (cons aund (cons aund (cons aund (cons aund (cons aund (cons aund (cons aund (cons aund (cons aund (cons aund (cons aund (cons aund (cons aund (cons aund (cons aund (cons aund (cons aund (cons aund (cons aund (cons aund (cons aund (cons aund (cons aund (cons aund (cons aund (cons aund (cons aund (cons aund (cons aund (cons aund (cons aund (cons aund (cons aund (cons aund (cons aund (cons aund (cons aund (cons aund (cons aund (cons aund (cons aund (cons aund (cons aund (cons aund (cons aund (cons aund (cons aund (cons aund (cons aund (cons aund (cons aund (cons aund (cons aund (cons aund (cons aund (cons aund (cons aund (cons aund (cons aund (cons aund (cons aund (cons aund (cons aund (cons aund (cons aund (cons aund (cons aund (cons aund (cons aund (cons aund (cons aund (cons aund (cons aund (cons aund (cons aund (cons aund (cons aund (cons aund (cons aund (cons aund (cons aund (cons aund (cons aund (cons aund (cons aund (cons aund (cons aund (cons aund (cons aund (cons aund (cons aund (cons aund (cons aund (cons aund (cons aund (cons aund (cons aund (cons aund nil))))))))))))))))))))))))))))))))))))))))))))))))))))))))))))))))))))))))))))))))))))))))))))))))))))))))))))))))))))))))))))))))))))))) nil nil)
end
theorem q_Z_1 : ∀ b, (Q_Z_1).em b = St.mk [un, un, rU b.1.2.2.1, un, un, un, un, un, rU b.1.c8.1, rU b.1.c8.2.1, rU b.1.c8.2.2.1,
 un, un, un, rU b.1.c8.c4.2.2.1, rU b.1.c8.c4.2.2.2.1, rU b.1.c16.1, rU b.1.c16.2.1,
 rU b.1.c16.2.2.1, un, un, un, un, un, un, un, un, un, un, un, un, un, un, un, un, un, un, un, un, un, un, un, un, un, un, un, un,
 un, un, un, un, un, un, un, un, un, un, un, un, un, un, un, un, un, un, un, un, un, un, un, un, un, un, un, un, un, un, un, un, un, un, un, un, un, un,
 un, un, un, un, un, un, un, un, un, un, un, un, un, un, un, un, un, un, un, un, un, un, un, un, un, un, un, un, un, un, un, un, un, un, un, un, un, un,
 un, un, un, un, un, un, un, un, un, un, un, un] [] [] := fun b => by kernel_rfl
def R_Z_1 (l : ∀ {ρ : Type}, (Int × Int × Int × Int × Int × Int × Int × Int × Int) → ((Int × Int × Int × Int × Int × Int × Int × Int × Int × Int × Bool × Int × Bool ⊕ Int × Int × Int × Int × Int × Int × Int × Int × Int × Int × Bool × Int × Int × Int × Int × Bool × Bool ⊕ Int × Int × Int × Int × Int ×
 Int × Int × Int × Int × Bool × Int × Int × Int × Bool) → Option ρ) → Option ρ) {ρ : Type} (s : St) (K : AX → St → Option ρ) : Option ρ := ((Q_Z_1).rd s).bind fun b => l (b.1.2.2.1, b.1.c8.1, b.1.c8.2.1, b.1.c8.2.2.1, b.1.c8.c4.2.2.1, b.1.c8.c4.2.2.2.1,
 b.1.c16.1, b.1.c16.2.1, b.1.c16.2.2.1) (Sum.elim (fun d => K (AX.ex 2) (St.mk [un, un, rU d.1, un, un, un, un, un, rU d.2.1,
 rU d.2.2.1, rU d.2.2.2.1, un, un, un, rU d.c4.1, rU d.c4.2.1, rU d.c4.2.2.1, rU d.c4.2.2.2.1,
 rU d.c8.1, un, un, un, un, un, un, un, un, un, un, un, un, un, un, un, un, un, un, un, un, un, un, un, un, un, un, un, un, un, un, un,
 un, un, un, un, un, un, un, un, un, un, un, un, un, un, un, un, un, un, un, un, un, un, un, un, un, un, un, un, un, un, un, un, un, un, un, un, un, un,
 un, un, un, un, un, un, un, un, un, un, un, un, un, un, rU d.c8.2.1, rB d.c8.2.2.1, rB true, AV.tup [], AV.tup [], AV.tup [], AV.tup [], AV.tup [],
 AV.tup [], AV.tup [], AV.tup [], rB true, rU d.c8.2.1, rU d.c8.1, rU d.c8.2.2.2.1, rU d.2.2.1, rU d.c4.2.2.1,
 rU d.c4.2.2.1, rB d.c8.c4, un, un, un, un, un, un, un, un, un, un, un, un, un, un] [] [])) (Sum.elim (fun d => K (AX.ex 2) (St.mk [un, un, rU d.1,
 un, un, un, un, un, rU d.2.1, rU d.2.2.1, rU d.2.2.2.1, un, un, un, rU d.c4.1, rU d.c4.2.1,
 rU d.c4.2.2.1, rU d.c4.2.2.2.1, rU d.c8.1, un, un, un, un, un, un, un, un, un, un, un, un, un, un, un, un, un,
 un, un, un, un, un, un, un, un, un, un, un, un, un, un, un, un, un, un, un, un, un, un, un, un, un, un, un, un, un, un, un, un, un, un, un, un, un, un,
 un, un, un, un, un, un, un, un, un, un, un, un, un, un, un, un, un, un, un, un, un, un, un, un, un, un, un, un, rU d.c8.2.1, rB d.c8.2.2.1,
 rB false, rU d.c8.2.1, rU d.2.2.2.1, rU d.c8.2.2.2.1, rU d.c8.c4.1, rU d.c8.c4.2.1,
 rU d.c4.1, rU d.c8.c4.2.2.1, rB d.c8.c4.2.2.2.1, rB d.c8.c4.2.2.2.1, rU d.c8.2.1,
 rU d.c8.1, rU d.c8.c4.1, rU d.2.2.1, rU d.c4.2.2.1, rU d.c4.2.2.1, rB d.c16,
 un, un, un, un, un, un, un, un, un, un, un, un, un, un] [] [])) (fun d => K (AX.ex 2) (St.mk [un, un, rU d.1, un, un, un, un, un, rU d.2.1, rU d.2.2.1,
 rU d.2.2.2.1, un, un, un, rU d.c4.1, rU d.c4.2.1, rU d.c4.2.2.1, rU d.c4.2.2.2.1, rU d.c8.1,
 un, un, un, un, un, un, un, un, un, un, un, un, un, un, un, un, un, un, un, un, un, un, un, un, un, un, un, un, un, un, un, un, un, un, un, un, un, un,
 un, un, un, un, un, un, un, un, un, un, un, un, un, un, un, un, un, un, un, un, un, un, un, un, un, un, un, un, un, un, un, un, un, un, un, un, un, un,
 un, un, un, un, un, un, un, rU d.c8.1, rB d.c8.2.1, rB false, rU d.c8.1, rU d.2.2.2.1,
 rU d.c8.2.2.1, rU d.c4.2.2.1, rU d.c8.2.2.2.1, rU d.c4.1, rU d.c8.c4.1,
 rB d.c8.c4.2, rB d.c8.c4.2, un, un, un, un, un, un, un, un, un, un, un, un, un, un, un, un, un, un, un, un, un] [] []))))
theorem ms_Z_1 {ρ σ : Type} (g_Am : t7GN1) (q : ρ → Option σ) (x0 : Int) (x1 : Int) (x2 : Int) (x3 : Int) (x4 : Int) (x5 : Int) (x6 : Int) (x7 : Int) (x8 : Int) (c : (Int × Int × Int × Int × Int × Int × Int × Int × Int) → Option ρ) (x : (Int × Int × Int × Int × Int × Int × Int × Int × Int ×
 Int × Bool × Int × Bool ⊕ Int × Int × Int × Int × Int × Int × Int × Int × Int × Int × Bool × Int × Int × Int × Int × Bool × Bool ⊕ Int × Int × Int × Int × Int × Int × Int × Int × Int × Bool × Int × Int × Int × Bool) → Option ρ) : (S_Z_1 g_Am x0 x1 x2 x3 x4 x5 x6 x7 x8 c x).bind q = S_Z_1 g_Am x0 x1 x2 x3 x4 x5 x6 x7 x8 (fun d => (c d).bind q) (fun d => (x d).bind q) := by
  simp only [S_Z_1, bnd_cond, bnd_bind, bnd_none, bnd_sum]
def L_Z_1 {ρ : Type} (d : Int × Int × Int × Int × Int × Int × Int × Int × Int) (k : (Int × Int × Int × Int × Int × Int × Int × Int × Int × Int × Bool × Int × Bool ⊕ Int × Int × Int × Int × Int × Int × Int × Int × Int × Int × Bool × Int × Int × Int × Int × Bool × Bool ⊕ Int × Int × Int × Int × Int × Int ×
 Int × Int × Int × Bool × Int × Int × Int × Bool) → Option ρ) : Option ρ := loopK (fun d c x => S_Z_1 f_Am d.1 d.2.1 d.2.2.1 d.2.2.2.1 d.c4.1 d.c4.2.1 d.c4.2.2.1 d.c4.2.2.2.1 d.c8 c x) 200 d k
theorem mL_Z_1 {ρ σ : Type} (q : ρ → Option σ) (d : Int × Int × Int × Int × Int × Int × Int × Int × Int) (k : (Int × Int × Int × Int × Int × Int × Int × Int × Int × Int × Bool × Int × Bool ⊕ Int × Int × Int × Int × Int × Int × Int × Int × Int × Int × Bool × Int × Int × Int × Int × Bool × Bool ⊕ Int ×
 Int × Int × Int × Int × Int × Int × Int × Int × Bool × Int × Int × Int × Bool) → Option ρ) : (L_Z_1 d k).bind q = L_Z_1 d fun x => (k x).bind q := loopK_bind q (fun d c x => ms_Z_1 f_Am q d.1 d.2.1 d.2.2.1 d.2.2.2.1 d.c4.1 d.c4.2.1 d.c4.2.2.1 d.c4.2.2.2.1 d.c8 c x) k _ d
theorem ds_Z_0 {ρ : Type} (g_Am : t7GN1) (l_0 : ∀ {ρ : Type}, (Int × Int × Int × Int × Int × Int × Int × Int × Int) → ((Int × Int × Int × Int × Int × Int × Int × Int × Int × Int × Bool × Int × Bool ⊕ Int × Int × Int × Int × Int × Int × Int × Int × Int × Int × Bool × Int × Int × Int × Int ×
 Bool × Bool ⊕ Int × Int × Int × Int × Int × Int × Int × Int × Int × Bool × Int × Int × Int × Bool) → Option ρ) → Option ρ) (l_1 : ∀ {ρ : Type}, (Int × Int × Int × Int × Int × Int × Int × Int × Int) → ((Int × Int × Int × Int × Int × Int × Int × Int × Int × Int × Bool × Int × Bool ⊕ Int × Int × Int × Int ×
 Int × Int × Int × Int × Int × Int × Bool × Int × Int × Int × Int × Bool × Bool ⊕ Int × Int × Int × Int × Int × Int × Int × Int × Int × Bool × Int × Int × Int × Bool) → Option ρ) → Option ρ) (x0 : Int) (x1 : Int) (x2 : Int) (x3 : Int) (x4 : Int) (x5 : Int) (x6 : Int) (x7 : Int) (x8 : Int) (c : St → Option ρ) (K : AX →
 St → Option ρ) : runC Try.prog (envOf [(94, F_Am g_Am)]) ⟨[⟨17, [0, 1, 3, 4, 5, 6, 7, 12, 17, 18, 19, 20, 21, 22, 23, 24, 25, 26, 27, 28, 29, 30, 31, 32, 33, 34, 35, 36, 37, 38, 39, 40, 41, 42, 43, 44, 45, 46, 47, 48, 49, 50, 51, 52, 53, 54, 55, 56, 57, 58, 59, 60, 61, 62, 63, 64, 65, 66, 67, 68, 69,
 78, 79, 80, 81, 82, 83, 84, 85, 86, 87, 88, 89, 90, 91, 92, 93, 94, 95, 96, 97, 98, 99, 100, 101, 102, 103, 104, 113, 114, 115, 116, 117, 118, 119, 120, 121, 122, 123, 124, 125, 126, 127, 128, 129, 130, 131, 132, 133, 134, 70, 71, 72, 73, 74, 75, 76, 77], []⟩, ⟨24, [0, 1, 3, 4, 5, 6, 7, 11, 12, 13, 19,
 20, 21, 22, 23, 24, 25, 26, 27, 28, 29, 30, 31, 32, 33, 34, 35, 36, 37, 38, 39, 40, 41, 42, 43, 44, 45, 46, 47, 48, 49, 50, 51, 52, 53, 54, 55, 56, 57, 58, 59, 60, 61, 62, 63, 64, 65, 66, 67, 68, 69, 70, 71, 72, 73, 74, 75, 76, 77, 78, 79, 80, 81, 82, 83, 84, 85, 86, 87, 88, 89, 90, 91, 92, 93, 94, 95,
 96, 97, 98, 99, 100, 101, 102, 103, 104, 113, 114, 115, 116, 117, 118, 119, 120, 121, 122, 123, 124, 125, 126, 127, 128, 129, 130, 131, 132, 133, 134, 105, 106, 107, 108, 109, 110, 111, 112], []⟩], [⟨17, 0, @R_Z_0 (@l_0)⟩, ⟨24, 0, @R_Z_1 (@l_1)⟩], [], [], (some ⟨0, u3GN1, []⟩)⟩ (tmpsOf Try.prog 90) 0 200 (loopIn Try.prog 90 17) (St.mk [un, un,
 rU x0, un, un, un, un, un, rU x1, rU x2, rU x3, rU x4, un, rU x5, rU x6,
 rU x7, rU x8, un, un, un, un, un, un, un, un, un, un, un, un, un, un, un, un, un, un, un, un, un, un, un, un, un, un, un, un,
 un, un, un, un, un, un, un, un, un, un, un, un, un, un, un, un, un, un, un, un, un, un, un, un, un, un, un, un, un, un, un, un, un, un, un, un, un, un,
 un, un, un, un, un, un, un, un, un, un, un, un, un, un, un, un, un, un, un, un, un, un, AV.tup [], AV.tup [], AV.tup [], AV.tup [], AV.tup [], AV.tup [], AV.tup [], AV.tup [], un, un, un, un, un,
 un, un, un, un, un, un, un, un, un, un, un, un, un, un, un, un, un] [] []) (next (fun t => t.head 0 ⟨[⟨17, [0, 1, 3, 4, 5, 6, 7, 12, 17, 18, 19, 20, 21, 22, 23, 24, 25, 26, 27, 28, 29, 30, 31, 32, 33, 34, 35, 36, 37, 38, 39, 40, 41,
 42, 43, 44, 45, 46, 47, 48, 49, 50, 51, 52, 53, 54, 55, 56, 57, 58, 59, 60, 61, 62, 63, 64, 65, 66, 67, 68, 69, 78, 79, 80, 81, 82, 83, 84, 85, 86, 87, 88, 89, 90, 91, 92, 93, 94, 95, 96, 97, 98, 99, 100, 101, 102, 103, 104, 113, 114, 115, 116, 117, 118, 119, 120, 121, 122, 123, 124, 125, 126, 127, 128,
 129, 130, 131, 132, 133, 134, 70, 71, 72, 73, 74, 75, 76, 77], []⟩, ⟨24, [0, 1, 3, 4, 5, 6, 7, 11, 12, 13, 19, 20, 21, 22, 23, 24, 25, 26, 27, 28, 29, 30, 31, 32, 33, 34, 35, 36, 37, 38, 39, 40, 41, 42, 43, 44, 45, 46, 47, 48, 49, 50, 51, 52, 53, 54, 55, 56, 57, 58, 59, 60, 61, 62, 63, 64, 65, 66, 67,
 68, 69, 70, 71, 72, 73, 74, 75, 76, 77, 78, 79, 80, 81, 82, 83, 84, 85, 86, 87, 88, 89, 90, 91, 92, 93, 94, 95, 96, 97, 98, 99, 100, 101, 102, 103, 104, 113, 114, 115, 116, 117, 118, 119, 120, 121, 122, 123, 124, 125, 126, 127, 128, 129, 130, 131, 132, 133, 134, 105, 106, 107, 108, 109, 110, 111, 112],
 []⟩], [⟨17, 0, @R_Z_0 (@l_0)⟩, ⟨24, 0, @R_Z_1 (@l_1)⟩], [], [], (some ⟨0, u3GN1, []⟩)⟩ (loopIn Try.prog 90 17)) c K) = S_Z_0 g_Am x0 x1 x2 x3 x4 x5 x6 x7 x8 (fun d => c (St.mk [un, un, rU d.1, un, un, un, un, un, rU d.2.1, rU d.2.2.1,
 rU d.2.2.2.1, rU d.c4.1, un, rU d.c4.2.1, rU d.c4.2.2.1, rU d.c4.2.2.2.1, rU d.c8,
 un, un, un, un, un, un, un, un, un, un, un, un, un, un, un, un, un, un, un, un, un, un, un, un, un, un, un, un, un, un, un, un, un, un, un, un, un, un,
 un, un, un, un, un, un, un, un, un, un, un, un, un, un, un, un, un, un, un, un, un, un, un, un, un, un, un, un, un, un, un, un, un, un, un, un, un, un,
 un, un, un, un, un, un, un, un, un, un, un, un, AV.tup [], AV.tup [], AV.tup [], AV.tup [], AV.tup [], AV.tup [], AV.tup [], AV.tup [], un, un, un, un, un, un, un, un, un, un, un, un, un, un, un,
 un, un, un, un, un, un, un] [] [])) (Sum.elim (fun d => K (AX.ex 0) (St.mk [un, un, rU d.1, un, un, un, un, un, rU d.2.1, rU d.2.2.1, rU d.2.2.2.1,
 rU d.c4.1, un, rU d.c4.2.1, rU d.c4.2.2.1, rU d.c4.2.2.2.1, rU d.c8.1, un, un, un,
 un, un, un, un, un, un, un, un, un, un, un, un, un, un, un, un, un, un, un, un, un, un, un, un, un, un, un, un, un, un, un, un, un, un, un, un, un, un,
 un, un, un, un, un, un, un, un, un, rU d.c8.2.1, rB d.c8.2.2.1, rB true, AV.tup [], AV.tup [], AV.tup [], AV.tup [], AV.tup [], AV.tup [], AV.tup [], AV.tup [],
 rB true, rU d.c8.2.1, rU d.c4.2.2.2.1, rU d.c8.2.2.2.1, rU d.2.2.1, rU d.c8.1,
 rU d.c8.1, rB d.c8.c4, un, un, un, un, un, un, un, un, un, un, un, un, un, un, un, un, un, un, un, AV.tup [], AV.tup [], AV.tup [], AV.tup [],
 AV.tup [], AV.tup [], AV.tup [], AV.tup [], un, un, un, un, un, un, un, un, un, un, un, un, un, un, un, un, un, un, un, un, un, un] [] [])) (Sum.elim (fun d => K (AX.ex 0) (St.mk [un, un, rU d.1,
 un, un, un, un, un, rU d.2.1, rU d.2.2.1, rU d.2.2.2.1, rU d.c4.1, un, rU d.c4.2.1, rU d.c4.2.2.1,
 rU d.c4.2.2.2.1, rU d.c8.1, un, un, un, un, un, un, un, un, un, un, un, un, un, un, un, un, un, un, un, un, un, un, un, un,
 un, un, un, un, un, un, un, un, un, un, un, un, un, un, un, un, un, un, un, un, un, un, un, un, un, un, rU d.c8.2.1, rB d.c8.2.2.1,
 rB false, rU d.c8.2.1, rU d.2.2.2.1, rU d.c8.2.2.2.1, rU d.c8.c4.1, rU d.c8.c4.2.1,
 rU d.c4.2.1, rU d.c8.c4.2.2.1, rB d.c8.c4.2.2.2.1, rB d.c8.c4.2.2.2.1, rU d.c8.2.1,
 rU d.c4.2.2.2.1, rU d.c8.c4.1, rU d.2.2.1, rU d.c8.1, rU d.c8.1, rB d.c16,
 un, un, un, un, un, un, un, un, un, un, un, un, un, un, un, un, un, un, un, AV.tup [], AV.tup [], AV.tup [], AV.tup [], AV.tup [], AV.tup [], AV.tup [], AV.tup [], un, un, un, un, un, un, un, un,
 un, un, un, un, un, un, un, un, un, un, un, un, un, un] [] [])) (fun d => K (AX.ex 0) (St.mk [un, un, rU d.1, un, un, un, un, un, rU d.2.1, rU d.2.2.1,
 rU d.2.2.2.1, rU d.c4.1, un, rU d.c4.2.1, rU d.c4.2.2.1, rU d.c4.2.2.2.1, rU d.c8.1,
 un, un, un, un, un, un, un, un, un, un, un, un, un, un, un, un, un, un, un, un, un, un, un, un, un, un, un, un, un, un, un, un, un, un, un, un, un, un,
 un, un, un, un, un, un, un, un, un, un, un, un, rU d.c4.2.2.2.1, rB d.c8.2.1, rB false, rU d.c4.2.2.2.1, rU d.2.2.2.1,
 rU d.c8.2.2.1, rU d.c8.1, rU d.c8.2.2.2.1, rU d.c4.2.1, rU d.c8.c4.1,
 rB d.c8.c4.2, rB d.c8.c4.2, un, un, un, un, un, un, un, un, un, un, un, un, un, un, un, un, un, un, un, un, un, un, un, un,
 un, un, AV.tup [], AV.tup [], AV.tup [], AV.tup [], AV.tup [], AV.tup [], AV.tup [], AV.tup [], un, un, un, un, un, un, un, un, un, un, un, un, un, un, un, un, un, un, un, un, un, un] [] [])))) := by kernel_rfl
theorem it_Z_0 {ρ : Type} (x0 : Int) (x1 : Int) (x2 : Int) (x3 : Int) (x4 : Int) (x5 : Int) (x6 : Int) (x7 : Int) (x8 : Int) (K : AX → St → Option ρ) : iter (fun t => t.head 0 ⟨[⟨17, [0, 1, 3, 4, 5, 6, 7, 12, 17, 18, 19, 20, 21, 22, 23, 24, 25, 26, 27, 28, 29, 30, 31, 32, 33, 34, 35, 36, 37, 38, 39,
 40, 41, 42, 43, 44, 45, 46, 47, 48, 49, 50, 51, 52, 53, 54, 55, 56, 57, 58, 59, 60, 61, 62, 63, 64, 65, 66, 67, 68, 69, 78, 79, 80, 81, 82, 83, 84, 85, 86, 87, 88, 89, 90, 91, 92, 93, 94, 95, 96, 97, 98, 99, 100, 101, 102, 103, 104, 113, 114, 115, 116, 117, 118, 119, 120, 121, 122, 123, 124, 125, 126,
 127, 128, 129, 130, 131, 132, 133, 134, 70, 71, 72, 73, 74, 75, 76, 77], []⟩, ⟨24, [0, 1, 3, 4, 5, 6, 7, 11, 12, 13, 19, 20, 21, 22, 23, 24, 25, 26, 27, 28, 29, 30, 31, 32, 33, 34, 35, 36, 37, 38, 39, 40, 41, 42, 43, 44, 45, 46, 47, 48, 49, 50, 51, 52, 53, 54, 55, 56, 57, 58, 59, 60, 61, 62, 63, 64,
 65, 66, 67, 68, 69, 70, 71, 72, 73, 74, 75, 76, 77, 78, 79, 80, 81, 82, 83, 84, 85, 86, 87, 88, 89, 90, 91, 92, 93, 94, 95, 96, 97, 98, 99, 100, 101, 102, 103, 104, 113, 114, 115, 116, 117, 118, 119, 120, 121, 122, 123, 124, 125, 126, 127, 128, 129, 130, 131, 132, 133, 134, 105, 106, 107, 108, 109, 110,
 111, 112], []⟩], [⟨17, 0, @R_Z_0 (@L_Z_0)⟩, ⟨24, 0, @R_Z_1 (@L_Z_1)⟩], [], [], (some ⟨0, u3GN1, []⟩)⟩ (loopIn Try.prog 90 17)) (runC Try.prog (envOf [(94, F_Am f_Am)]) ⟨[⟨17, [0, 1, 3, 4, 5, 6, 7, 12, 17, 18, 19, 20, 21, 22, 23, 24, 25, 26, 27, 28, 29, 30, 31, 32, 33, 34, 35, 36, 37, 38, 39, 40, 41, 42, 43, 44, 45, 46, 47, 48, 49, 50, 51, 52, 53, 54,
 55, 56, 57, 58, 59, 60, 61, 62, 63, 64, 65, 66, 67, 68, 69, 78, 79, 80, 81, 82, 83, 84, 85, 86, 87, 88, 89, 90, 91, 92, 93, 94, 95, 96, 97, 98, 99, 100, 101, 102, 103, 104, 113, 114, 115, 116, 117, 118, 119, 120, 121, 122, 123, 124, 125, 126, 127, 128, 129, 130, 131, 132, 133, 134, 70, 71, 72, 73, 74,
 75, 76, 77], []⟩, ⟨24, [0, 1, 3, 4, 5, 6, 7, 11, 12, 13, 19, 20, 21, 22, 23, 24, 25, 26, 27, 28, 29, 30, 31, 32, 33, 34, 35, 36, 37, 38, 39, 40, 41, 42, 43, 44, 45, 46, 47, 48, 49, 50, 51, 52, 53, 54, 55, 56, 57, 58, 59, 60, 61, 62, 63, 64, 65, 66, 67, 68, 69, 70, 71, 72, 73, 74, 75, 76, 77, 78, 79,
 80, 81, 82, 83, 84, 85, 86, 87, 88, 89, 90, 91, 92, 93, 94, 95, 96, 97, 98, 99, 100, 101, 102, 103, 104, 113, 114, 115, 116, 117, 118, 119, 120, 121, 122, 123, 124, 125, 126, 127, 128, 129, 130, 131, 132, 133, 134, 105, 106, 107, 108, 109, 110, 111, 112], []⟩], [⟨17, 0, @R_Z_0 (@L_Z_0)⟩, ⟨24, 0, @R_Z_1 (@L_Z_1)⟩],
 [], [], (some ⟨0, u3GN1, []⟩)⟩ (tmpsOf Try.prog 90) 0 200 (loopIn Try.prog 90 17)) K 200 (St.mk [un,
 un, rU x0, un, un, un, un, un, rU x1, rU x2, rU x3, rU x4, un, rU x5,
 rU x6, rU x7, rU x8, un, un, un, un, un, un, un, un, un, un, un, un, un, un, un, un, un, un, un, un, un, un,
 un, un, un, un, un, un, un, un, un, un, un, un, un, un, un, un, un, un, un, un, un, un, un, un, un, un, un, un, un, un, un, un, un, un, un, un, un, un,
 un, un, un, un, un, un, un, un, un, un, un, un, un, un, un, un, un, un, un, un, un, un, un, un, un, un, un, un, AV.tup [], AV.tup [], AV.tup [], AV.tup [], AV.tup [], AV.tup [], AV.tup [],
 AV.tup [], un, un, un, un, un, un, un, un, un, un, un, un, un, un, un, un, un, un, un, un, un, un] [] []) = L_Z_0 (x0, x1, x2, x3, x4, x5, x6, x7, x8) (Sum.elim (fun d => K (AX.ex 0) (St.mk [un, un, rU d.1,
 un, un, un, un, un, rU d.2.1, rU d.2.2.1, rU d.2.2.2.1, rU d.c4.1, un, rU d.c4.2.1, rU d.c4.2.2.1,
 rU d.c4.2.2.2.1, rU d.c8.1, un, un, un, un, un, un, un, un, un, un, un, un, un, un, un, un, un, un, un, un, un, un, un, un,
 un, un, un, un, un, un, un, un, un, un, un, un, un, un, un, un, un, un, un, un, un, un, un, un, un, un, rU d.c8.2.1, rB d.c8.2.2.1,
 rB true, AV.tup [], AV.tup [], AV.tup [], AV.tup [], AV.tup [], AV.tup [], AV.tup [], AV.tup [], rB true, rU d.c8.2.1, rU d.c4.2.2.2.1, rU d.c8.2.2.2.1,
 rU d.2.2.1, rU d.c8.1, rU d.c8.1, rB d.c8.c4, un, un, un, un, un, un, un, un, un, un, un,
 un, un, un, un, un, un, un, un, AV.tup [], AV.tup [], AV.tup [], AV.tup [], AV.tup [], AV.tup [], AV.tup [], AV.tup [], un, un, un, un, un, un, un, un, un, un, un, un, un, un, un, un, un, un, un,
 un, un, un] [] [])) (Sum.elim (fun d => K (AX.ex 0) (St.mk [un, un, rU d.1, un, un, un, un, un, rU d.2.1, rU d.2.2.1, rU d.2.2.2.1,
 rU d.c4.1, un, rU d.c4.2.1, rU d.c4.2.2.1, rU d.c4.2.2.2.1, rU d.c8.1, un, un, un,
 un, un, un, un, un, un, un, un, un, un, un, un, un, un, un, un, un, un, un, un, un, un, un, un, un, un, un, un, un, un, un, un, un, un, un, un, un, un,
 un, un, un, un, un, un, un, un, un, rU d.c8.2.1, rB d.c8.2.2.1, rB false, rU d.c8.2.1, rU d.2.2.2.1,
 rU d.c8.2.2.2.1, rU d.c8.c4.1, rU d.c8.c4.2.1, rU d.c4.2.1, rU d.c8.c4.2.2.1,
 rB d.c8.c4.2.2.2.1, rB d.c8.c4.2.2.2.1, rU d.c8.2.1, rU d.c4.2.2.2.1, rU d.c8.c4.1,
 rU d.2.2.1, rU d.c8.1, rU d.c8.1, rB d.c16, un, un, un, un, un, un, un, un, un, un,
 un, un, un, un, un, un, un, un, un, AV.tup [], AV.tup [], AV.tup [], AV.tup [], AV.tup [], AV.tup [], AV.tup [], AV.tup [], un, un, un, un, un, un, un, un, un, un, un, un, un, un, un, un, un, un,
 un, un, un, un] [] [])) (fun d => K (AX.ex 0) (St.mk [un, un, rU d.1, un, un, un, un, un, rU d.2.1, rU d.2.2.1, rU d.2.2.2.1,
 rU d.c4.1, un, rU d.c4.2.1, rU d.c4.2.2.1, rU d.c4.2.2.2.1, rU d.c8.1, un, un, un,
 un, un, un, un, un, un, un, un, un, un, un, un, un, un, un, un, un, un, un, un, un, un, un, un, un, un, un, un, un, un, un, un, un, un, un, un, un, un,
 un, un, un, un, un, un, un, un, un, rU d.c4.2.2.2.1, rB d.c8.2.1, rB false, rU d.c4.2.2.2.1, rU d.2.2.2.1,
 rU d.c8.2.2.1, rU d.c8.1, rU d.c8.2.2.2.1, rU d.c4.2.1, rU d.c8.c4.1,
 rB d.c8.c4.2, rB d.c8.c4.2, un, un, un, un, un, un, un, un, un, un, un, un, un, un, un, un, un, un, un, un, un, un, un, un,
 un, un, AV.tup [], AV.tup [], AV.tup [], AV.tup [], AV.tup [], AV.tup [], AV.tup [], AV.tup [], un, un, un, un, un, un, un, un, un, un, un, un, un, un, un, un, un, un, un, un, un, un] [] [])))) := iter_loopX (emb := fun (d : Int ×
 Int × Int × Int × Int × Int × Int × Int × Int) => St.mk [un, un, rU d.1, un, un, un, un, un, rU d.2.1, rU d.2.2.1, rU d.2.2.2.1, rU d.c4.1,
 un, rU d.c4.2.1, rU d.c4.2.2.1, rU d.c4.2.2.2.1, rU d.c8, un, un, un, un, un, un, un, un, un,
 un, un, un, un, un, un, un, un, un, un, un, un, un, un, un, un, un, un, un, un, un, un, un, un, un, un, un, un, un, un, un, un, un, un, un, un, un, un,
 un, un, un, un, un, un, un, un, un, un, un, un, un, un, un, un, un, un, un, un, un, un, un, un, un, un, un, un, un, un, un, un, un, un, un, un, un, un,
 un, un, un, AV.tup [], AV.tup [], AV.tup [], AV.tup [], AV.tup [], AV.tup [], AV.tup [], AV.tup [], un, un, un, un, un, un, un, un, un, un, un, un, un, un, un, un, un, un, un, un, un, un] [] []) (step := fun d c x => S_Z_0 f_Am d.1 d.2.1 d.2.2.1 d.2.2.2.1 d.c4.1 d.c4.2.1 d.c4.2.2.1 d.c4.2.2.2.1 d.c8 c x) (kx := (Sum.elim (fun d => K (AX.ex 0) (St.mk [un,
 un, rU d.1, un, un, un, un, un, rU d.2.1, rU d.2.2.1, rU d.2.2.2.1, rU d.c4.1, un, rU d.c4.2.1,
 rU d.c4.2.2.1, rU d.c4.2.2.2.1, rU d.c8.1, un, un, un, un, un, un, un, un, un, un, un, un, un, un, un, un, un,
 un, un, un, un, un, un, un, un, un, un, un, un, un, un, un, un, un, un, un, un, un, un, un, un, un, un, un, un, un, un, un, un, un, rU d.c8.2.1,
 rB d.c8.2.2.1, rB true, AV.tup [], AV.tup [], AV.tup [], AV.tup [], AV.tup [], AV.tup [], AV.tup [], AV.tup [], rB true, rU d.c8.2.1, rU d.c4.2.2.2.1,
 rU d.c8.2.2.2.1, rU d.2.2.1, rU d.c8.1, rU d.c8.1, rB d.c8.c4, un, un, un,
 un, un, un, un, un, un, un, un, un, un, un, un, un, un, un, un, AV.tup [], AV.tup [], AV.tup [], AV.tup [], AV.tup [], AV.tup [], AV.tup [], AV.tup [], un, un, un, un, un, un, un, un, un, un, un,
 un, un, un, un, un, un, un, un, un, un, un] [] [])) (Sum.elim (fun d => K (AX.ex 0) (St.mk [un, un, rU d.1, un, un, un, un, un, rU d.2.1, rU d.2.2.1,
 rU d.2.2.2.1, rU d.c4.1, un, rU d.c4.2.1, rU d.c4.2.2.1, rU d.c4.2.2.2.1, rU d.c8.1,
 un, un, un, un, un, un, un, un, un, un, un, un, un, un, un, un, un, un, un, un, un, un, un, un, un, un, un, un, un, un, un, un, un, un, un, un, un, un,
 un, un, un, un, un, un, un, un, un, un, un, un, rU d.c8.2.1, rB d.c8.2.2.1, rB false, rU d.c8.2.1,
 rU d.2.2.2.1, rU d.c8.2.2.2.1, rU d.c8.c4.1, rU d.c8.c4.2.1, rU d.c4.2.1,
 rU d.c8.c4.2.2.1, rB d.c8.c4.2.2.2.1, rB d.c8.c4.2.2.2.1, rU d.c8.2.1, rU d.c4.2.2.2.1,
 rU d.c8.c4.1, rU d.2.2.1, rU d.c8.1, rU d.c8.1, rB d.c16, un,
 un, un, un, un, un, un, un, un, un, un, un, un, un, un, un, un, un, un, AV.tup [], AV.tup [], AV.tup [], AV.tup [], AV.tup [], AV.tup [], AV.tup [], AV.tup [], un, un, un, un, un, un, un, un, un,
 un, un, un, un, un, un, un, un, un, un, un, un, un] [] [])) (fun d => K (AX.ex 0) (St.mk [un, un, rU d.1, un, un, un, un, un, rU d.2.1, rU d.2.2.1,
 rU d.2.2.2.1, rU d.c4.1, un, rU d.c4.2.1, rU d.c4.2.2.1, rU d.c4.2.2.2.1, rU d.c8.1,
 un, un, un, un, un, un, un, un, un, un, un, un, un, un, un, un, un, un, un, un, un, un, un, un, un, un, un, un, un, un, un, un, un, un, un, un, un, un,
 un, un, un, un, un, un, un, un, un, un, un, un, rU d.c4.2.2.2.1, rB d.c8.2.1, rB false, rU d.c4.2.2.2.1, rU d.2.2.2.1,
 rU d.c8.2.2.1, rU d.c8.1, rU d.c8.2.2.2.1, rU d.c4.2.1, rU d.c8.c4.1,
 rB d.c8.c4.2, rB d.c8.c4.2, un, un, un, un, un, un, un, un, un, un, un, un, un, un, un, un, un, un, un, un, un, un, un, un,
 un, un, AV.tup [], AV.tup [], AV.tup [], AV.tup [], AV.tup [], AV.tup [], AV.tup [], AV.tup [], un, un, un, un, un, un, un, un, un, un, un, un, un, un, un, un, un, un, un, un, un, un] [] []))))) (fun d c => ds_Z_0 f_Am (@L_Z_0) (@L_Z_1) d.1 d.2.1 d.2.2.1 d.2.2.2.1 d.c4.1 d.c4.2.1 d.c4.2.2.1 d.c4.2.2.2.1 d.c8 c K) 200 (x0,
 x1, x2, x3, x4, x5, x6, x7, x8)
theorem so_Z_0 [Amb] : ∀ kk, SumOK Try.prog (envOf [(94, F_Am f_Am)]) ⟨[⟨17, [0, 1, 3, 4, 5, 6, 7, 12, 17, 18, 19, 20, 21, 22, 23, 24, 25, 26, 27, 28, 29, 30, 31, 32, 33, 34, 35, 36, 37, 38, 39, 40, 41, 42, 43, 44, 45, 46, 47, 48, 49, 50, 51, 52, 53, 54, 55, 56, 57, 58, 59, 60, 61, 62, 63, 64, 65, 66,
 67, 68, 69, 78, 79, 80, 81, 82, 83, 84, 85, 86, 87, 88, 89, 90, 91, 92, 93, 94, 95, 96, 97, 98, 99, 100, 101, 102, 103, 104, 113, 114, 115, 116, 117, 118, 119, 120, 121, 122, 123, 124, 125, 126, 127, 128, 129, 130, 131, 132, 133, 134, 70, 71, 72, 73, 74, 75, 76, 77], []⟩, ⟨24, [0, 1, 3, 4, 5, 6, 7, 11,
 12, 13, 19, 20, 21, 22, 23, 24, 25, 26, 27, 28, 29, 30, 31, 32, 33, 34, 35, 36, 37, 38, 39, 40, 41, 42, 43, 44, 45, 46, 47, 48, 49, 50, 51, 52, 53, 54, 55, 56, 57, 58, 59, 60, 61, 62, 63, 64, 65, 66, 67, 68, 69, 70, 71, 72, 73, 74, 75, 76, 77, 78, 79, 80, 81, 82, 83, 84, 85, 86, 87, 88, 89, 90, 91, 92,
 93, 94, 95, 96, 97, 98, 99, 100, 101, 102, 103, 104, 113, 114, 115, 116, 117, 118, 119, 120, 121, 122, 123, 124, 125, 126, 127, 128, 129, 130, 131, 132, 133, 134, 105, 106, 107, 108, 109, 110, 111, 112], []⟩], [⟨17, 0, @R_Z_0 (@L_Z_0)⟩, ⟨24, 0, @R_Z_1 (@L_Z_1)⟩], [], [], (some ⟨0, u3GN1, []⟩)⟩ (tmpsOf Try.prog 90) kk 200 (loopIn Try.prog 90 17) := SumOK.of (id := 17) (k0 := 0) (run := @R_Z_0 (@L_Z_0)) (by kernel_rfl) fun s K r hr => by
    unfold R_Z_0 at hr
    obtain ⟨b, hb, hr1⟩ := Option.bind_eq_some_iff.1 hr
    have e := ((Q_Z_0).ok s b hb).trans (q_Z_0 b)
    subst e
    exact ⟨200, (it_Z_0 b.1.2.2.1 b.1.c8.1 b.1.c8.2.1 b.1.c8.2.2.1 b.1.c8.2.2.2.1 b.1.c8.c4.2.1 b.1.c8.c4.2.2.1 b.1.c8.c4.2.2.2.1 b.1.c16.1 K).trans hr1⟩
theorem ds_Z_1 {ρ : Type} (g_Am : t7GN1) (l_0 : ∀ {ρ : Type}, (Int × Int × Int × Int × Int × Int × Int × Int × Int) → ((Int × Int × Int × Int × Int × Int × Int × Int × Int × Int × Bool × Int × Bool ⊕ Int × Int × Int × Int × Int × Int × Int × Int × Int × Int × Bool × Int × Int × Int × Int ×
 Bool × Bool ⊕ Int × Int × Int × Int × Int × Int × Int × Int × Int × Bool × Int × Int × Int × Bool) → Option ρ) → Option ρ) (l_1 : ∀ {ρ : Type}, (Int × Int × Int × Int × Int × Int × Int × Int × Int) → ((Int × Int × Int × Int × Int × Int × Int × Int × Int × Int × Bool × Int × Bool ⊕ Int × Int × Int × Int ×
 Int × Int × Int × Int × Int × Int × Bool × Int × Int × Int × Int × Bool × Bool ⊕ Int × Int × Int × Int × Int × Int × Int × Int × Int × Bool × Int × Int × Int × Bool) → Option ρ) → Option ρ) (x0 : Int) (x1 : Int) (x2 : Int) (x3 : Int) (x4 : Int) (x5 : Int) (x6 : Int) (x7 : Int) (x8 : Int) (c : St → Option ρ) (K : AX →
 St → Option ρ) : runC Try.prog (envOf [(94, F_Am g_Am)]) ⟨[⟨17, [0, 1, 3, 4, 5, 6, 7, 12, 17, 18, 19, 20, 21, 22, 23, 24, 25, 26, 27, 28, 29, 30, 31, 32, 33, 34, 35, 36, 37, 38, 39, 40, 41, 42, 43, 44, 45, 46, 47, 48, 49, 50, 51, 52, 53, 54, 55, 56, 57, 58, 59, 60, 61, 62, 63, 64, 65, 66, 67, 68, 69,
 78, 79, 80, 81, 82, 83, 84, 85, 86, 87, 88, 89, 90, 91, 92, 93, 94, 95, 96, 97, 98, 99, 100, 101, 102, 103, 104, 113, 114, 115, 116, 117, 118, 119, 120, 121, 122, 123, 124, 125, 126, 127, 128, 129, 130, 131, 132, 133, 134, 70, 71, 72, 73, 74, 75, 76, 77], []⟩, ⟨24, [0, 1, 3, 4, 5, 6, 7, 11, 12, 13, 19,
 20, 21, 22, 23, 24, 25, 26, 27, 28, 29, 30, 31, 32, 33, 34, 35, 36, 37, 38, 39, 40, 41, 42, 43, 44, 45, 46, 47, 48, 49, 50, 51, 52, 53, 54, 55, 56, 57, 58, 59, 60, 61, 62, 63, 64, 65, 66, 67, 68, 69, 70, 71, 72, 73, 74, 75, 76, 77, 78, 79, 80, 81, 82, 83, 84, 85, 86, 87, 88, 89, 90, 91, 92, 93, 94, 95,
 96, 97, 98, 99, 100, 101, 102, 103, 104, 113, 114, 115, 116, 117, 118, 119, 120, 121, 122, 123, 124, 125, 126, 127, 128, 129, 130, 131, 132, 133, 134, 105, 106, 107, 108, 109, 110, 111, 112], []⟩], [⟨17, 0, @R_Z_0 (@l_0)⟩, ⟨24, 0, @R_Z_1 (@l_1)⟩], [], [], (some ⟨0, u3GN1, []⟩)⟩ (tmpsOf Try.prog 90) 0 200 (loopIn Try.prog 90 24) (St.mk [un, un,
 rU x0, un, un, un, un, un, rU x1, rU x2, rU x3, un, un, un, rU x4, rU x5,
 rU x6, rU x7, rU x8, un, un, un, un, un, un, un, un, un, un, un, un, un, un, un, un, un, un, un, un, un, un,
 un, un, un, un, un, un, un, un, un, un, un, un, un, un, un, un, un, un, un, un, un, un, un, un, un, un, un, un, un, un, un, un, un, un, un, un, un, un,
 un, un, un, un, un, un, un, un, un, un, un, un, un, un, un, un, un, un, un, un, un, un, un, un, un, un, un, un, un, un, un, un, un, un, un, un, un, un,
 un, un, un, un, un, un, un, un, un, un, un, un, un, un, un, un, un, un] [] []) (next (fun t => t.head 0 ⟨[⟨17, [0, 1, 3, 4, 5, 6, 7, 12, 17, 18, 19, 20, 21, 22, 23, 24, 25, 26, 27, 28, 29, 30, 31, 32, 33, 34, 35, 36, 37, 38, 39,
 40, 41, 42, 43, 44, 45, 46, 47, 48, 49, 50, 51, 52, 53, 54, 55, 56, 57, 58, 59, 60, 61, 62, 63, 64, 65, 66, 67, 68, 69, 78, 79, 80, 81, 82, 83, 84, 85, 86, 87, 88, 89, 90, 91, 92, 93, 94, 95, 96, 97, 98, 99, 100, 101, 102, 103, 104, 113, 114, 115, 116, 117, 118, 119, 120, 121, 122, 123, 124, 125, 126,
 127, 128, 129, 130, 131, 132, 133, 134, 70, 71, 72, 73, 74, 75, 76, 77], []⟩, ⟨24, [0, 1, 3, 4, 5, 6, 7, 11, 12, 13, 19, 20, 21, 22, 23, 24, 25, 26, 27, 28, 29, 30, 31, 32, 33, 34, 35, 36, 37, 38, 39, 40, 41, 42, 43, 44, 45, 46, 47, 48, 49, 50, 51, 52, 53, 54, 55, 56, 57, 58, 59, 60, 61, 62, 63, 64,
 65, 66, 67, 68, 69, 70, 71, 72, 73, 74, 75, 76, 77, 78, 79, 80, 81, 82, 83, 84, 85, 86, 87, 88, 89, 90, 91, 92, 93, 94, 95, 96, 97, 98, 99, 100, 101, 102, 103, 104, 113, 114, 115, 116, 117, 118, 119, 120, 121, 122, 123, 124, 125, 126, 127, 128, 129, 130, 131, 132, 133, 134, 105, 106, 107, 108, 109, 110,
 111, 112], []⟩], [⟨17, 0, @R_Z_0 (@l_0)⟩, ⟨24, 0, @R_Z_1 (@l_1)⟩], [], [], (some ⟨0, u3GN1, []⟩)⟩ (loopIn Try.prog 90 24)) c K) = S_Z_1 g_Am x0 x1 x2 x3 x4 x5 x6 x7 x8 (fun d => c (St.mk [un, un, rU d.1, un, un, un, un, un, rU d.2.1, rU d.2.2.1,
 rU d.2.2.2.1, un, un, un, rU d.c4.1, rU d.c4.2.1, rU d.c4.2.2.1, rU d.c4.2.2.2.1, rU d.c8,
 un, un, un, un, un, un, un, un, un, un, un, un, un, un, un, un, un, un, un, un, un, un, un, un, un, un, un, un, un, un, un, un, un, un, un, un, un, un,
 un, un, un, un, un, un, un, un, un, un, un, un, un, un, un, un, un, un, un, un, un, un, un, un, un, un, un, un, un, un, un, un, un, un, un, un, un, un,
 un, un, un, un, un, un, un, un, un, un, un, un, un, un, un, un, un, un, un, un, un, un, un, un, un, un, un, un, un, un, un, un, un, un, un, un, un, un,
 un, un] [] [])) (Sum.elim (fun d => K (AX.ex 2) (St.mk [un, un, rU d.1, un, un, un, un, un, rU d.2.1, rU d.2.2.1, rU d.2.2.2.1,
 un, un, un, rU d.c4.1, rU d.c4.2.1, rU d.c4.2.2.1, rU d.c4.2.2.2.1, rU d.c8.1, un,
 un, un, un, un, un, un, un, un, un, un, un, un, un, un, un, un, un, un, un, un, un, un, un, un, un, un, un, un, un, un, un, un, un, un, un, un, un, un,
 un, un, un, un, un, un, un, un, un, un, un, un, un, un, un, un, un, un, un, un, un, un, un, un, un, un, un, un, un, un, un, un, un, un, un, un, un, un,
 un, un, un, un, un, un, rU d.c8.2.1, rB d.c8.2.2.1, rB true, AV.tup [], AV.tup [], AV.tup [], AV.tup [], AV.tup [], AV.tup [], AV.tup [], AV.tup [], rB true,
 rU d.c8.2.1, rU d.c8.1, rU d.c8.2.2.2.1, rU d.2.2.1, rU d.c4.2.2.1, rU d.c4.2.2.1,
 rB d.c8.c4, un, un, un, un, un, un, un, un, un, un, un, un, un, un] [] [])) (Sum.elim (fun d => K (AX.ex 2) (St.mk [un, un, rU d.1, un, un, un, un,
 un, rU d.2.1, rU d.2.2.1, rU d.2.2.2.1, un, un, un, rU d.c4.1, rU d.c4.2.1, rU d.c4.2.2.1,
 rU d.c4.2.2.2.1, rU d.c8.1, un, un, un, un, un, un, un, un, un, un, un, un, un, un, un, un, un, un, un, un, un, un, un, un,
 un, un, un, un, un, un, un, un, un, un, un, un, un, un, un, un, un, un, un, un, un, un, un, un, un, un, un, un, un, un, un, un, un, un, un, un, un, un,
 un, un, un, un, un, un, un, un, un, un, un, un, un, un, un, un, un, un, un, un, un, rU d.c8.2.1, rB d.c8.2.2.1, rB false,
 rU d.c8.2.1, rU d.2.2.2.1, rU d.c8.2.2.2.1, rU d.c8.c4.1, rU d.c8.c4.2.1,
 rU d.c4.1, rU d.c8.c4.2.2.1, rB d.c8.c4.2.2.2.1, rB d.c8.c4.2.2.2.1, rU d.c8.2.1,
 rU d.c8.1, rU d.c8.c4.1, rU d.2.2.1, rU d.c4.2.2.1, rU d.c4.2.2.1, rB d.c16,
 un, un, un, un, un, un, un, un, un, un, un, un, un, un] [] [])) (fun d => K (AX.ex 2) (St.mk [un, un, rU d.1, un, un, un, un, un, rU d.2.1, rU d.2.2.1,
 rU d.2.2.2.1, un, un, un, rU d.c4.1, rU d.c4.2.1, rU d.c4.2.2.1, rU d.c4.2.2.2.1, rU d.c8.1,
 un, un, un, un, un, un, un, un, un, un, un, un, un, un, un, un, un, un, un, un, un, un, un, un, un, un, un, un, un, un, un, un, un, un, un, un, un, un,
 un, un, un, un, un, un, un, un, un, un, un, un, un, un, un, un, un, un, un, un, un, un, un, un, un, un, un, un, un, un, un, un, un, un, un, un, un, un,
 un, un, un, un, un, un, un, rU d.c8.1, rB d.c8.2.1, rB false, rU d.c8.1, rU d.2.2.2.1,
 rU d.c8.2.2.1, rU d.c4.2.2.1, rU d.c8.2.2.2.1, rU d.c4.1, rU d.c8.c4.1,
 rB d.c8.c4.2, rB d.c8.c4.2, un, un, un, un, un, un, un, un, un, un, un, un, un, un, un, un, un, un, un, un, un] [] [])))) := by kernel_rfl
theorem it_Z_1 {ρ : Type} (x0 : Int) (x1 : Int) (x2 : Int) (x3 : Int) (x4 : Int) (x5 : Int) (x6 : Int) (x7 : Int) (x8 : Int) (K : AX → St → Option ρ) : iter (fun t => t.head 0 ⟨[⟨17, [0, 1, 3, 4, 5, 6, 7, 12, 17, 18, 19, 20, 21, 22, 23, 24, 25, 26, 27, 28, 29, 30, 31, 32, 33, 34, 35, 36, 37, 38, 39,
 40, 41, 42, 43, 44, 45, 46, 47, 48, 49, 50, 51, 52, 53, 54, 55, 56, 57, 58, 59, 60, 61, 62, 63, 64, 65, 66, 67, 68, 69, 78, 79, 80, 81, 82, 83, 84, 85, 86, 87, 88, 89, 90, 91, 92, 93, 94, 95, 96, 97, 98, 99, 100, 101, 102, 103, 104, 113, 114, 115, 116, 117, 118, 119, 120, 121, 122, 123, 124, 125, 126,
 127, 128, 129, 130, 131, 132, 133, 134, 70, 71, 72, 73, 74, 75, 76, 77], []⟩, ⟨24, [0, 1, 3, 4, 5, 6, 7, 11, 12, 13, 19, 20, 21, 22, 23, 24, 25, 26, 27, 28, 29, 30, 31, 32, 33, 34, 35, 36, 37, 38, 39, 40, 41, 42, 43, 44, 45, 46, 47, 48, 49, 50, 51, 52, 53, 54, 55, 56, 57, 58, 59, 60, 61, 62, 63, 64,
 65, 66, 67, 68, 69, 70, 71, 72, 73, 74, 75, 76, 77, 78, 79, 80, 81, 82, 83, 84, 85, 86, 87, 88, 89, 90, 91, 92, 93, 94, 95, 96, 97, 98, 99, 100, 101, 102, 103, 104, 113, 114, 115, 116, 117, 118, 119, 120, 121, 122, 123, 124, 125, 126, 127, 128, 129, 130, 131, 132, 133, 134, 105, 106, 107, 108, 109, 110,
 111, 112], []⟩], [⟨17, 0, @R_Z_0 (@L_Z_0)⟩, ⟨24, 0, @R_Z_1 (@L_Z_1)⟩], [], [], (some ⟨0, u3GN1, []⟩)⟩ (loopIn Try.prog 90 24)) (runC Try.prog (envOf [(94, F_Am f_Am)]) ⟨[⟨17, [0, 1, 3, 4, 5, 6, 7, 12, 17, 18, 19, 20, 21, 22, 23, 24, 25, 26, 27, 28, 29, 30, 31, 32, 33, 34, 35, 36, 37, 38, 39, 40, 41, 42, 43, 44, 45, 46, 47, 48, 49, 50, 51, 52, 53, 54,
 55, 56, 57, 58, 59, 60, 61, 62, 63, 64, 65, 66, 67, 68, 69, 78, 79, 80, 81, 82, 83, 84, 85, 86, 87, 88, 89, 90, 91, 92, 93, 94, 95, 96, 97, 98, 99, 100, 101, 102, 103, 104, 113, 114, 115, 116, 117, 118, 119, 120, 121, 122, 123, 124, 125, 126, 127, 128, 129, 130, 131, 132, 133, 134, 70, 71, 72, 73, 74,
 75, 76, 77], []⟩, ⟨24, [0, 1, 3, 4, 5, 6, 7, 11, 12, 13, 19, 20, 21, 22, 23, 24, 25, 26, 27, 28, 29, 30, 31, 32, 33, 34, 35, 36, 37, 38, 39, 40, 41, 42, 43, 44, 45, 46, 47, 48, 49, 50, 51, 52, 53, 54, 55, 56, 57, 58, 59, 60, 61, 62, 63, 64, 65, 66, 67, 68, 69, 70, 71, 72, 73, 74, 75, 76, 77, 78, 79,
 80, 81, 82, 83, 84, 85, 86, 87, 88, 89, 90, 91, 92, 93, 94, 95, 96, 97, 98, 99, 100, 101, 102, 103, 104, 113, 114, 115, 116, 117, 118, 119, 120, 121, 122, 123, 124, 125, 126, 127, 128, 129, 130, 131, 132, 133, 134, 105, 106, 107, 108, 109, 110, 111, 112], []⟩], [⟨17, 0, @R_Z_0 (@L_Z_0)⟩, ⟨24, 0, @R_Z_1 (@L_Z_1)⟩],
 [], [], (some ⟨0, u3GN1, []⟩)⟩ (tmpsOf Try.prog 90) 0 200 (loopIn Try.prog 90 24)) K 200 (St.mk [un,
 un, rU x0, un, un, un, un, un, rU x1, rU x2, rU x3, un, un, un, rU x4, rU x5,
 rU x6, rU x7, rU x8, un, un, un, un, un, un, un, un, un, un, un, un, un, un, un, un, un, un, un, un, un, un,
 un, un, un, un, un, un, un, un, un, un, un, un, un, un, un, un, un, un, un, un, un, un, un, un, un, un, un, un, un, un, un, un, un, un, un, un, un, un,
 un, un, un, un, un, un, un, un, un, un, un, un, un, un, un, un, un, un, un, un, un, un, un, un, un, un, un, un, un, un, un, un, un, un, un, un, un, un,
 un, un, un, un, un, un, un, un, un, un, un, un, un, un, un, un, un, un] [] []) = L_Z_1 (x0, x1, x2, x3, x4, x5, x6, x7, x8) (Sum.elim (fun d => K (AX.ex 2) (St.mk [un, un, rU d.1, un,
 un, un, un, un, rU d.2.1, rU d.2.2.1, rU d.2.2.2.1, un, un, un, rU d.c4.1, rU d.c4.2.1,
 rU d.c4.2.2.1, rU d.c4.2.2.2.1, rU d.c8.1, un, un, un, un, un, un, un, un, un, un, un, un, un, un, un, un, un,
 un, un, un, un, un, un, un, un, un, un, un, un, un, un, un, un, un, un, un, un, un, un, un, un, un, un, un, un, un, un, un, un, un, un, un, un, un, un,
 un, un, un, un, un, un, un, un, un, un, un, un, un, un, un, un, un, un, un, un, un, un, un, un, un, un, un, un, rU d.c8.2.1, rB d.c8.2.2.1,
 rB true, AV.tup [], AV.tup [], AV.tup [], AV.tup [], AV.tup [], AV.tup [], AV.tup [], AV.tup [], rB true, rU d.c8.2.1, rU d.c8.1, rU d.c8.2.2.2.1,
 rU d.2.2.1, rU d.c4.2.2.1, rU d.c4.2.2.1, rB d.c8.c4, un, un, un, un, un, un, un, un, un, un, un, un,
 un, un] [] [])) (Sum.elim (fun d => K (AX.ex 2) (St.mk [un, un, rU d.1, un, un, un, un, un, rU d.2.1, rU d.2.2.1, rU d.2.2.2.1,
 un, un, un, rU d.c4.1, rU d.c4.2.1, rU d.c4.2.2.1, rU d.c4.2.2.2.1, rU d.c8.1, un,
 un, un, un, un, un, un, un, un, un, un, un, un, un, un, un, un, un, un, un, un, un, un, un, un, un, un, un, un, un, un, un, un, un, un, un, un, un, un,
 un, un, un, un, un, un, un, un, un, un, un, un, un, un, un, un, un, un, un, un, un, un, un, un, un, un, un, un, un, un, un, un, un, un, un, un, un, un,
 un, un, un, un, un, un, rU d.c8.2.1, rB d.c8.2.2.1, rB false, rU d.c8.2.1, rU d.2.2.2.1,
 rU d.c8.2.2.2.1, rU d.c8.c4.1, rU d.c8.c4.2.1, rU d.c4.1, rU d.c8.c4.2.2.1,
 rB d.c8.c4.2.2.2.1, rB d.c8.c4.2.2.2.1, rU d.c8.2.1, rU d.c8.1, rU d.c8.c4.1,
 rU d.2.2.1, rU d.c4.2.2.1, rU d.c4.2.2.1, rB d.c16, un, un, un, un, un, un, un, un, un, un, un,
 un, un, un] [] [])) (fun d => K (AX.ex 2) (St.mk [un, un, rU d.1, un, un, un, un, un, rU d.2.1, rU d.2.2.1, rU d.2.2.2.1,
 un, un, un, rU d.c4.1, rU d.c4.2.1, rU d.c4.2.2.1, rU d.c4.2.2.2.1, rU d.c8.1, un,
 un, un, un, un, un, un, un, un, un, un, un, un, un, un, un, un, un, un, un, un, un, un, un, un, un, un, un, un, un, un, un, un, un, un, un, un, un, un,
 un, un, un, un, un, un, un, un, un, un, un, un, un, un, un, un, un, un, un, un, un, un, un, un, un, un, un, un, un, un, un, un, un, un, un, un, un, un,
 un, un, un, un, un, un, rU d.c8.1, rB d.c8.2.1, rB false, rU d.c8.1, rU d.2.2.2.1, rU d.c8.2.2.1,
 rU d.c4.2.2.1, rU d.c8.2.2.2.1, rU d.c4.1, rU d.c8.c4.1, rB d.c8.c4.2, rB d.c8.c4.2,
 un, un, un, un, un, un, un, un, un, un, un, un, un, un, un, un, un, un, un, un, un] [] [])))) := iter_loopX (emb := fun (d : Int × Int × Int × Int × Int × Int × Int × Int × Int) => St.mk [un, un, rU d.1,
 un, un, un, un, un, rU d.2.1, rU d.2.2.1, rU d.2.2.2.1, un, un, un, rU d.c4.1, rU d.c4.2.1,
 rU d.c4.2.2.1, rU d.c4.2.2.2.1, rU d.c8, un, un, un, un, un, un, un, un, un, un, un, un, un, un, un, un, un,
 un, un, un, un, un, un, un, un, un, un, un, un, un, un, un, un, un, un, un, un, un, un, un, un, un, un, un, un, un, un, un, un, un, un, un, un, un, un,
 un, un, un, un, un, un, un, un, un, un, un, un, un, un, un, un, un, un, un, un, un, un, un, un, un, un, un, un, un, un, un, un, un, un, un, un, un, un,
 un, un, un, un, un, un, un, un, un, un, un, un, un, un, un, un, un, un, un, un, un, un, un] [] []) (step := fun d c x => S_Z_1 f_Am d.1 d.2.1 d.2.2.1 d.2.2.2.1 d.c4.1 d.c4.2.1 d.c4.2.2.1 d.c4.2.2.2.1 d.c8 c x) (kx := (Sum.elim (fun d => K (AX.ex 2) (St.mk [un,
 un, rU d.1, un, un, un, un, un, rU d.2.1, rU d.2.2.1, rU d.2.2.2.1, un, un, un, rU d.c4.1,
 rU d.c4.2.1, rU d.c4.2.2.1, rU d.c4.2.2.2.1, rU d.c8.1, un, un, un, un, un, un, un, un, un, un,
 un, un, un, un, un, un, un, un, un, un, un, un, un, un, un, un, un, un, un, un, un, un, un, un, un, un, un, un, un, un, un, un, un, un, un, un, un, un,
 un, un, un, un, un, un, un, un, un, un, un, un, un, un, un, un, un, un, un, un, un, un, un, un, un, un, un, un, un, un, un, un, un, un, un, rU d.c8.2.1,
 rB d.c8.2.2.1, rB true, AV.tup [], AV.tup [], AV.tup [], AV.tup [], AV.tup [], AV.tup [], AV.tup [], AV.tup [], rB true, rU d.c8.2.1, rU d.c8.1,
 rU d.c8.2.2.2.1, rU d.2.2.1, rU d.c4.2.2.1, rU d.c4.2.2.1, rB d.c8.c4, un, un, un, un,
 un, un, un, un, un, un, un, un, un, un] [] [])) (Sum.elim (fun d => K (AX.ex 2) (St.mk [un, un, rU d.1, un, un, un, un, un, rU d.2.1, rU d.2.2.1,
 rU d.2.2.2.1, un, un, un, rU d.c4.1, rU d.c4.2.1, rU d.c4.2.2.1, rU d.c4.2.2.2.1, rU d.c8.1,
 un, un, un, un, un, un, un, un, un, un, un, un, un, un, un, un, un, un, un, un, un, un, un, un, un, un, un, un, un, un, un, un, un, un, un, un, un, un,
 un, un, un, un, un, un, un, un, un, un, un, un, un, un, un, un, un, un, un, un, un, un, un, un, un, un, un, un, un, un, un, un, un, un, un, un, un, un,
 un, un, un, un, un, un, un, rU d.c8.2.1, rB d.c8.2.2.1, rB false, rU d.c8.2.1, rU d.2.2.2.1,
 rU d.c8.2.2.2.1, rU d.c8.c4.1, rU d.c8.c4.2.1, rU d.c4.1, rU d.c8.c4.2.2.1,
 rB d.c8.c4.2.2.2.1, rB d.c8.c4.2.2.2.1, rU d.c8.2.1, rU d.c8.1, rU d.c8.c4.1,
 rU d.2.2.1, rU d.c4.2.2.1, rU d.c4.2.2.1, rB d.c16, un, un, un, un, un, un, un, un, un, un, un,
 un, un, un] [] [])) (fun d => K (AX.ex 2) (St.mk [un, un, rU d.1, un, un, un, un, un, rU d.2.1, rU d.2.2.1, rU d.2.2.2.1,
 un, un, un, rU d.c4.1, rU d.c4.2.1, rU d.c4.2.2.1, rU d.c4.2.2.2.1, rU d.c8.1, un,
 un, un, un, un, un, un, un, un, un, un, un, un, un, un, un, un, un, un, un, un, un, un, un, un, un, un, un, un, un, un, un, un, un, un, un, un, un, un,
 un, un, un, un, un, un, un, un, un, un, un, un, un, un, un, un, un, un, un, un, un, un, un, un, un, un, un, un, un, un, un, un, un, un, un, un, un, un,
 un, un, un, un, un, un, rU d.c8.1, rB d.c8.2.1, rB false, rU d.c8.1, rU d.2.2.2.1, rU d.c8.2.2.1,
 rU d.c4.2.2.1, rU d.c8.2.2.2.1, rU d.c4.1, rU d.c8.c4.1, rB d.c8.c4.2, rB d.c8.c4.2,
 un, un, un, un, un, un, un, un, un, un, un, un, un, un, un, un, un, un, un, un, un] [] []))))) (fun d c => ds_Z_1 f_Am (@L_Z_0) (@L_Z_1) d.1 d.2.1 d.2.2.1 d.2.2.2.1 d.c4.1 d.c4.2.1 d.c4.2.2.1 d.c4.2.2.2.1 d.c8 c K) 200 (x0,
 x1, x2, x3, x4, x5, x6, x7, x8)
theorem so_Z_1 [Amb] : ∀ kk, SumOK Try.prog (envOf [(94, F_Am f_Am)]) ⟨[⟨17, [0, 1, 3, 4, 5, 6, 7, 12, 17, 18, 19, 20, 21, 22, 23, 24, 25, 26, 27, 28, 29, 30, 31, 32, 33, 34, 35, 36, 37, 38, 39, 40, 41, 42, 43, 44, 45, 46, 47, 48, 49, 50, 51, 52, 53, 54, 55, 56, 57, 58, 59, 60, 61, 62, 63, 64, 65, 66,
 67, 68, 69, 78, 79, 80, 81, 82, 83, 84, 85, 86, 87, 88, 89, 90, 91, 92, 93, 94, 95, 96, 97, 98, 99, 100, 101, 102, 103, 104, 113, 114, 115, 116, 117, 118, 119, 120, 121, 122, 123, 124, 125, 126, 127, 128, 129, 130, 131, 132, 133, 134, 70, 71, 72, 73, 74, 75, 76, 77], []⟩, ⟨24, [0, 1, 3, 4, 5, 6, 7, 11,
 12, 13, 19, 20, 21, 22, 23, 24, 25, 26, 27, 28, 29, 30, 31, 32, 33, 34, 35, 36, 37, 38, 39, 40, 41, 42, 43, 44, 45, 46, 47, 48, 49, 50, 51, 52, 53, 54, 55, 56, 57, 58, 59, 60, 61, 62, 63, 64, 65, 66, 67, 68, 69, 70, 71, 72, 73, 74, 75, 76, 77, 78, 79, 80, 81, 82, 83, 84, 85, 86, 87, 88, 89, 90, 91, 92,
 93, 94, 95, 96, 97, 98, 99, 100, 101, 102, 103, 104, 113, 114, 115, 116, 117, 118, 119, 120, 121, 122, 123, 124, 125, 126, 127, 128, 129, 130, 131, 132, 133, 134, 105, 106, 107, 108, 109, 110, 111, 112], []⟩], [⟨17, 0, @R_Z_0 (@L_Z_0)⟩, ⟨24, 0, @R_Z_1 (@L_Z_1)⟩], [], [], (some ⟨0, u3GN1, []⟩)⟩ (tmpsOf Try.prog 90) kk 200 (loopIn Try.prog 90 24) := SumOK.of (id := 24) (k0 := 0) (run := @R_Z_1 (@L_Z_1)) (by kernel_rfl) fun s K r hr => by
    unfold R_Z_1 at hr
    obtain ⟨b, hb, hr1⟩ := Option.bind_eq_some_iff.1 hr
    have e := ((Q_Z_1).ok s b hb).trans (q_Z_1 b)
    subst e
    exact ⟨200, (it_Z_1 b.1.2.2.1 b.1.c8.1 b.1.c8.2.1 b.1.c8.2.2.1 b.1.c8.c4.2.2.1 b.1.c8.c4.2.2.2.1 b.1.c16.1 b.1.c16.2.1 b.1.c16.2.2.1 K).trans hr1⟩
def K_Z {ρ : Type} (g_Am : t7GN1) (l_0 : ∀ {ρ : Type}, (Int × Int × Int × Int × Int × Int × Int × Int × Int) → ((Int × Int × Int × Int × Int × Int × Int × Int × Int × Int × Bool × Int × Bool ⊕ Int × Int × Int × Int × Int × Int × Int × Int × Int × Int × Bool × Int × Int × Int × Int × Bool ×
 Bool ⊕ Int × Int × Int × Int × Int × Int × Int × Int × Int × Bool × Int × Int × Int × Bool) → Option ρ) → Option ρ) (l_1 : ∀ {ρ : Type}, (Int × Int × Int × Int × Int × Int × Int × Int × Int) → ((Int × Int × Int × Int × Int × Int × Int × Int × Int × Int × Bool × Int × Bool ⊕ Int × Int × Int × Int × Int ×
 Int × Int × Int × Int × Int × Bool × Int × Int × Int × Int × Bool × Bool ⊕ Int × Int × Int × Int × Int × Int × Int × Int × Int × Bool × Int × Int × Int × Bool) → Option ρ) → Option ρ) (x0 : Int) (x1 : Int) (x2 : Int) (k : (Int × Int) → Option ρ) : Option ρ := bif x2 == 0 then none else bif decide (x2 ≤ x0) then
 none else bif x0 == 0 then bif !decide (x2 = 0) then bif !decide (x2 = 0) then k (IntKind.wrap .u64 (Int.tdiv x1 x2), Int.tmod x1 x2) else none else none else Option.bind (g_Am x2) fun (d : Int) => bif !decide (IntKind.wrap .u64 d < 0) then bif !decide (IntKind.wrap .u64 d < 0) then
 bif !decide (IntKind.wrap .u64 (64 - IntKind.wrap .u64 d) < 0) then bif !decide (IntKind.wrap .u64 d < 0) then bif !decide (Int.fdiv (IntKind.wrap .u64 (x2 * 2 ^ min (Int.toNat (IntKind.wrap .u64 d)) 64)) 4294967296 = 0) then l_0 (IntKind.wrap .u64 (x2 * 2 ^ min (Int.toNat (IntKind.wrap .u64 d)) 64),
 IntKind.wrap .u64 d, Int.fdiv (IntKind.wrap .u64 (x2 * 2 ^ min (Int.toNat (IntKind.wrap .u64 d)) 64)) 4294967296, IntKind.wrap .u64 (Int.ofNat (BitVec.toNat (BitVec.ofInt 64 (IntKind.wrap .u64 (x2 * 2 ^ min (Int.toNat (IntKind.wrap .u64 d)) 64)) &&& BitVec.ofInt 64 4294967295))),
 IntKind.wrap .u64 (Int.ofNat (BitVec.toNat (BitVec.ofInt 64 (IntKind.wrap .u64 (x0 * 2 ^ min (Int.toNat (IntKind.wrap .u64 d)) 64)) ||| BitVec.ofInt 64 (Int.fdiv x1 (2 ^ min (Int.toNat (IntKind.wrap .u64 (64 - IntKind.wrap .u64 d))) 64))))), Int.fdiv (IntKind.wrap .u64 (x1 * 2 ^ min (Int.toNat (IntKind.wrap .u64 d)) 64)) 4294967296,
 IntKind.wrap .u64 (Int.ofNat (BitVec.toNat (BitVec.ofInt 64 (IntKind.wrap .u64 (x1 * 2 ^ min (Int.toNat (IntKind.wrap .u64 d)) 64)) &&& BitVec.ofInt 64 4294967295))), IntKind.wrap .u64 (Int.tdiv (IntKind.wrap .u64 (Int.ofNat (BitVec.toNat (BitVec.ofInt 64 (IntKind.wrap .u64 (x0 * 2 ^ min (Int.toNat (IntKind.wrap .u64 d)) 64)) ||| BitVec.ofInt 64 (Int.fdiv x1 (2 ^ min (Int.toNat (IntKind.wrap .u64 (64 - IntKind.wrap .u64 d))) 64)))))) (Int.fdiv (IntKind.wrap .u64 (x2 * 2 ^ min (Int.toNat (IntKind.wrap .u64 d)) 64)) 4294967296)),
 IntKind.wrap .u64 (IntKind.wrap .u64 (Int.ofNat (BitVec.toNat (BitVec.ofInt 64 (IntKind.wrap .u64 (x0 * 2 ^ min (Int.toNat (IntKind.wrap .u64 d)) 64)) ||| BitVec.ofInt 64 (Int.fdiv x1 (2 ^ min (Int.toNat (IntKind.wrap .u64 (64 - IntKind.wrap .u64 d))) 64))))) - IntKind.wrap .u64 (IntKind.wrap .u64 (Int.tdiv (IntKind.wrap .u64 (Int.ofNat (BitVec.toNat (BitVec.ofInt 64 (IntKind.wrap .u64 (x0 * 2 ^ min (Int.toNat (IntKind.wrap .u64 d)) 64)) ||| BitVec.ofInt 64 (Int.fdiv x1 (2 ^ min (Int.toNat (IntKind.wrap .u64 (64 - IntKind.wrap .u64 d))) 64)))))) (Int.fdiv (IntKind.wrap .u64 (x2 * 2 ^ min (Int.toNat (IntKind.wrap .u64 d)) 64)) 4294967296)) * Int.fdiv (IntKind.wrap .u64 (x2 * 2 ^ min (Int.toNat (IntKind.wrap .u64 d)) 64)) 4294967296))) (Sum.elim (fun (d : Int ×
 Int × Int × Int × Int × Int × Int × Int × Int × Int × Bool × Int × Bool) => bif !decide (d.2.2.1 = 0) then l_1 (d.1, d.2.1, d.2.2.1, d.2.2.2.1, d.c4.2.2.1, d.c4.2.2.2.1, IntKind.wrap .u64 (IntKind.wrap .u64 (IntKind.wrap .u64 (IntKind.wrap .u64 (d.c4.1 * 4294967296) + d.c4.2.1) - IntKind.wrap .u64 (d.c4.2.2.2.1 * d.1)) - IntKind.wrap .u64 (IntKind.wrap .u64 (Int.tdiv (IntKind.wrap .u64 (IntKind.wrap .u64 (IntKind.wrap .u64 (d.c4.1 * 4294967296) + d.c4.2.1) - IntKind.wrap .u64 (d.c4.2.2.2.1 * d.1))) d.2.2.1) * d.2.2.1)),
 IntKind.wrap .u64 (IntKind.wrap .u64 (IntKind.wrap .u64 (d.c4.1 * 4294967296) + d.c4.2.1) - IntKind.wrap .u64 (d.c4.2.2.2.1 * d.1)), IntKind.wrap .u64 (Int.tdiv (IntKind.wrap .u64 (IntKind.wrap .u64 (IntKind.wrap .u64 (d.c4.1 * 4294967296) + d.c4.2.1) - IntKind.wrap .u64 (d.c4.2.2.2.1 * d.1))) d.2.2.1)) (Sum.elim (fun (d : Int ×
 Int × Int × Int × Int × Int × Int × Int × Int × Int × Bool × Int × Bool) => bif !decide (d.2.1 < 0) then k (IntKind.wrap .u64 (IntKind.wrap .u64 (d.c4.2.1 * 4294967296) + d.c8.1), Int.fdiv (IntKind.wrap .u64 (IntKind.wrap .u64 (IntKind.wrap .u64 (d.c4.2.2.2.1 * 4294967296) + d.c4.1) - IntKind.wrap .u64 (d.c8.1 * d.1))) (2 ^ min (Int.toNat d.2.1) 64)) else
 none) (Sum.elim (fun (d : Int × Int × Int × Int × Int × Int × Int × Int × Int × Int × Bool × Int × Int × Int × Int × Bool × Bool) => bif !decide (d.2.1 < 0) then k (IntKind.wrap .u64 (IntKind.wrap .u64 (d.c4.2.1 * 4294967296) + d.c8.1), Int.fdiv (IntKind.wrap .u64 (IntKind.wrap .u64 (IntKind.wrap .u64 (d.c4.2.2.2.1 * 4294967296) + d.c4.1) - IntKind.wrap .u64 (d.c8.1 * d.1))) (2 ^ min (Int.toNat d.2.1) 64)) else
 none) fun (d : Int × Int × Int × Int × Int × Int × Int × Int × Int × Bool × Int × Int × Int × Bool) => bif !decide (d.2.1 < 0) then k (IntKind.wrap .u64 (IntKind.wrap .u64 (d.c4.2.1 * 4294967296) + d.c8.1), Int.fdiv (IntKind.wrap .u64 (IntKind.wrap .u64 (IntKind.wrap .u64 (d.c4.2.2.2.1 * 4294967296) + d.c4.1) - IntKind.wrap .u64 (d.c8.1 * d.1))) (2 ^ min (Int.toNat d.2.1) 64)) else
 none)) else none) (Sum.elim (fun (d : Int × Int × Int × Int × Int × Int × Int × Int × Int × Int × Bool × Int × Int × Int × Int × Bool × Bool) => bif !decide (d.2.2.1 = 0) then l_1 (d.1, d.2.1, d.2.2.1, d.2.2.2.1, d.c4.2.2.1, d.c4.2.2.2.1, IntKind.wrap .u64 (IntKind.wrap .u64 (IntKind.wrap .u64 (IntKind.wrap .u64 (d.c4.1 * 4294967296) + d.c4.2.1) - IntKind.wrap .u64 (d.c4.2.2.2.1 * d.1)) - IntKind.wrap .u64 (IntKind.wrap .u64 (Int.tdiv (IntKind.wrap .u64 (IntKind.wrap .u64 (IntKind.wrap .u64 (d.c4.1 * 4294967296) + d.c4.2.1) - IntKind.wrap .u64 (d.c4.2.2.2.1 * d.1))) d.2.2.1) * d.2.2.1)),
 IntKind.wrap .u64 (IntKind.wrap .u64 (IntKind.wrap .u64 (d.c4.1 * 4294967296) + d.c4.2.1) - IntKind.wrap .u64 (d.c4.2.2.2.1 * d.1)), IntKind.wrap .u64 (Int.tdiv (IntKind.wrap .u64 (IntKind.wrap .u64 (IntKind.wrap .u64 (d.c4.1 * 4294967296) + d.c4.2.1) - IntKind.wrap .u64 (d.c4.2.2.2.1 * d.1))) d.2.2.1)) (Sum.elim (fun (d : Int ×
 Int × Int × Int × Int × Int × Int × Int × Int × Int × Bool × Int × Bool) => bif !decide (d.2.1 < 0) then k (IntKind.wrap .u64 (IntKind.wrap .u64 (d.c4.2.1 * 4294967296) + d.c8.1), Int.fdiv (IntKind.wrap .u64 (IntKind.wrap .u64 (IntKind.wrap .u64 (d.c4.2.2.2.1 * 4294967296) + d.c4.1) - IntKind.wrap .u64 (d.c8.1 * d.1))) (2 ^ min (Int.toNat d.2.1) 64)) else
 none) (Sum.elim (fun (d : Int × Int × Int × Int × Int × Int × Int × Int × Int × Int × Bool × Int × Int × Int × Int × Bool × Bool) => bif !decide (d.2.1 < 0) then k (IntKind.wrap .u64 (IntKind.wrap .u64 (d.c4.2.1 * 4294967296) + d.c8.1), Int.fdiv (IntKind.wrap .u64 (IntKind.wrap .u64 (IntKind.wrap .u64 (d.c4.2.2.2.1 * 4294967296) + d.c4.1) - IntKind.wrap .u64 (d.c8.1 * d.1))) (2 ^ min (Int.toNat d.2.1) 64)) else
 none) fun (d : Int × Int × Int × Int × Int × Int × Int × Int × Int × Bool × Int × Int × Int × Bool) => bif !decide (d.2.1 < 0) then k (IntKind.wrap .u64 (IntKind.wrap .u64 (d.c4.2.1 * 4294967296) + d.c8.1), Int.fdiv (IntKind.wrap .u64 (IntKind.wrap .u64 (IntKind.wrap .u64 (d.c4.2.2.2.1 * 4294967296) + d.c4.1) - IntKind.wrap .u64 (d.c8.1 * d.1))) (2 ^ min (Int.toNat d.2.1) 64)) else
 none)) else none) fun (d : Int × Int × Int × Int × Int × Int × Int × Int × Int × Bool × Int × Int × Int × Bool) => bif !decide (d.2.2.1 = 0) then l_1 (d.1, d.2.1, d.2.2.1, d.2.2.2.1, d.c4.2.2.1, d.c4.2.2.2.1, IntKind.wrap .u64 (IntKind.wrap .u64 (IntKind.wrap .u64 (IntKind.wrap .u64 (d.c4.1 * 4294967296) + d.c4.2.1) - IntKind.wrap .u64 (d.c4.2.2.2.1 * d.1)) - IntKind.wrap .u64 (IntKind.wrap .u64 (Int.tdiv (IntKind.wrap .u64 (IntKind.wrap .u64 (IntKind.wrap .u64 (d.c4.1 * 4294967296) + d.c4.2.1) - IntKind.wrap .u64 (d.c4.2.2.2.1 * d.1))) d.2.2.1) * d.2.2.1)),
 IntKind.wrap .u64 (IntKind.wrap .u64 (IntKind.wrap .u64 (d.c4.1 * 4294967296) + d.c4.2.1) - IntKind.wrap .u64 (d.c4.2.2.2.1 * d.1)), IntKind.wrap .u64 (Int.tdiv (IntKind.wrap .u64 (IntKind.wrap .u64 (IntKind.wrap .u64 (d.c4.1 * 4294967296) + d.c4.2.1) - IntKind.wrap .u64 (d.c4.2.2.2.1 * d.1))) d.2.2.1)) (Sum.elim (fun (d : Int ×
 Int × Int × Int × Int × Int × Int × Int × Int × Int × Bool × Int × Bool) => bif !decide (d.2.1 < 0) then k (IntKind.wrap .u64 (IntKind.wrap .u64 (d.c4.2.1 * 4294967296) + d.c8.1), Int.fdiv (IntKind.wrap .u64 (IntKind.wrap .u64 (IntKind.wrap .u64 (d.c4.2.2.2.1 * 4294967296) + d.c4.1) - IntKind.wrap .u64 (d.c8.1 * d.1))) (2 ^ min (Int.toNat d.2.1) 64)) else
 none) (Sum.elim (fun (d : Int × Int × Int × Int × Int × Int × Int × Int × Int × Int × Bool × Int × Int × Int × Int × Bool × Bool) => bif !decide (d.2.1 < 0) then k (IntKind.wrap .u64 (IntKind.wrap .u64 (d.c4.2.1 * 4294967296) + d.c8.1), Int.fdiv (IntKind.wrap .u64 (IntKind.wrap .u64 (IntKind.wrap .u64 (d.c4.2.2.2.1 * 4294967296) + d.c4.1) - IntKind.wrap .u64 (d.c8.1 * d.1))) (2 ^ min (Int.toNat d.2.1) 64)) else
 none) fun (d : Int × Int × Int × Int × Int × Int × Int × Int × Int × Bool × Int × Int × Int × Bool) => bif !decide (d.2.1 < 0) then k (IntKind.wrap .u64 (IntKind.wrap .u64 (d.c4.2.1 * 4294967296) + d.c8.1), Int.fdiv (IntKind.wrap .u64 (IntKind.wrap .u64 (IntKind.wrap .u64 (d.c4.2.2.2.1 * 4294967296) + d.c4.1) - IntKind.wrap .u64 (d.c8.1 * d.1))) (2 ^ min (Int.toNat d.2.1) 64)) else
 none)) else none)) else none else none else none else none else none
def f_Z (x0 : Int) (x1 : Int) (x2 : Int) : Option (Int × Int) := K_Z f_Am (@L_Z_0) (@L_Z_1) x0 x1 x2 some
section
open Go.Ab.Rdr
def QA_Z := ((pair (cons (ar (rc (cf (fi .u64 hole)))) (cons (ar (rc (cf (fi .u64 hole)))) (cons (ar (rc (cf (fi .u64 hole)))) nil))) nil) : Rdr (List AV × List Blk) _)
end
def F_Z (f : (Int) → (Int) → (Int) → Option (Int × Int)) : Sem1 := fun args h => match (QA_Z).rd (args, h) with
  | some b => .opt (f b.1.1 b.1.2.1 b.1.2.2.1) fun (d : Int × Int) => .leaf (Res.mk (AV.tup [RV.c (CV.f (FV.i .u64 d.1)), RV.c (CV.f (FV.i .u64 d.2))]) [] [])
  | none => .fail
theorem d_Z (g_Am : t7GN1) (l_0 : ∀ {ρ : Type}, (Int × Int × Int × Int × Int × Int × Int × Int × Int) → ((Int × Int × Int × Int × Int × Int × Int × Int × Int × Int × Bool × Int × Bool ⊕ Int × Int × Int × Int × Int × Int × Int × Int × Int × Int × Bool × Int × Int × Int × Int × Bool × Bool ⊕ Int ×
 Int × Int × Int × Int × Int × Int × Int × Int × Bool × Int × Int × Int × Bool) → Option ρ) → Option ρ) (l_1 : ∀ {ρ : Type}, (Int × Int × Int × Int × Int × Int × Int × Int × Int) → ((Int × Int × Int × Int × Int × Int × Int × Int × Int × Int × Bool × Int × Bool ⊕ Int × Int × Int × Int × Int × Int × Int ×
 Int × Int × Int × Bool × Int × Int × Int × Int × Bool × Bool ⊕ Int × Int × Int × Int × Int × Int × Int × Int × Int × Bool × Int × Int × Int × Bool) → Option ρ) → Option ρ) (x0 : Int) (x1 : Int) (x2 : Int) : den Try.prog (envOf [(94, F_Am g_Am)]) ⟨[⟨17, [0, 1, 3, 4, 5, 6, 7, 12, 17, 18, 19, 20, 21, 22,
 23, 24, 25, 26, 27, 28, 29, 30, 31, 32, 33, 34, 35, 36, 37, 38, 39, 40, 41, 42, 43, 44, 45, 46, 47, 48, 49, 50, 51, 52, 53, 54, 55, 56, 57, 58, 59, 60, 61, 62, 63, 64, 65, 66, 67, 68, 69, 78, 79, 80, 81, 82, 83, 84, 85, 86, 87, 88, 89, 90, 91, 92, 93, 94, 95, 96, 97, 98, 99, 100, 101, 102, 103, 104,
 113, 114, 115, 116, 117, 118, 119, 120, 121, 122, 123, 124, 125, 126, 127, 128, 129, 130, 131, 132, 133, 134, 70, 71, 72, 73, 74, 75, 76, 77], []⟩, ⟨24, [0, 1, 3, 4, 5, 6, 7, 11, 12, 13, 19, 20, 21, 22, 23, 24, 25, 26, 27, 28, 29, 30, 31, 32, 33, 34, 35, 36, 37, 38, 39, 40, 41, 42, 43, 44, 45, 46, 47,
 48, 49, 50, 51, 52, 53, 54, 55, 56, 57, 58, 59, 60, 61, 62, 63, 64, 65, 66, 67, 68, 69, 70, 71, 72, 73, 74, 75, 76, 77, 78, 79, 80, 81, 82, 83, 84, 85, 86, 87, 88, 89, 90, 91, 92, 93, 94, 95, 96, 97, 98, 99, 100, 101, 102, 103, 104, 113, 114, 115, 116, 117, 118, 119, 120, 121, 122, 123, 124, 125, 126,
 127, 128, 129, 130, 131, 132, 133, 134, 105, 106, 107, 108, 109, 110, 111, 112], []⟩], [⟨17, 0, @R_Z_0 (@l_0)⟩, ⟨24, 0, @R_Z_1 (@l_1)⟩], [], [], (some ⟨0, u3GN1, []⟩)⟩ 200 90 [rU x0, rU x1, rU x2] [] = K_Z g_Am (@l_0) (@l_1) x0 x1 x2 (fun (d : Int × Int) => some (Res.mk (AV.tup [RV.c (CV.f (FV.i .u64 d.1)),
 RV.c (CV.f (FV.i .u64 d.2))]) [] [])) := by kernel_rfl
theorem m_Z {ρ σ : Type} (q : ρ → Option σ) (g_Am : t7GN1) (l_0 : ∀ {ρ : Type}, (Int × Int × Int × Int × Int × Int × Int × Int × Int) → ((Int × Int × Int × Int × Int × Int × Int × Int × Int × Int × Bool × Int × Bool ⊕ Int × Int × Int × Int × Int × Int × Int × Int × Int × Int × Bool × Int ×
 Int × Int × Int × Bool × Bool ⊕ Int × Int × Int × Int × Int × Int × Int × Int × Int × Bool × Int × Int × Int × Bool) → Option ρ) → Option ρ) (l_1 : ∀ {ρ : Type}, (Int × Int × Int × Int × Int × Int × Int × Int × Int) → ((Int × Int × Int × Int × Int × Int × Int × Int × Int × Int × Bool × Int × Bool ⊕ Int ×
 Int × Int × Int × Int × Int × Int × Int × Int × Int × Bool × Int × Int × Int × Int × Bool × Bool ⊕ Int × Int × Int × Int × Int × Int × Int × Int × Int × Bool × Int × Int × Int × Bool) → Option ρ) → Option ρ) (hl_0 : ∀ {ρ σ : Type} (q : ρ → Option σ) (d : Int × Int × Int × Int × Int × Int × Int × Int ×
 Int) (k : (Int × Int × Int × Int × Int × Int × Int × Int × Int × Int × Bool × Int × Bool ⊕ Int × Int × Int × Int × Int × Int × Int × Int × Int × Int × Bool × Int × Int × Int × Int × Bool × Bool ⊕ Int × Int × Int × Int × Int × Int × Int × Int × Int × Bool × Int × Int × Int × Bool) → Option ρ), (l_0 d k).bind q = l_0 d fun x => (k x).bind q) (hl_1 : ∀ {ρ σ : Type} (q : ρ →
 Option σ) (d : Int × Int × Int × Int × Int × Int × Int × Int × Int) (k : (Int × Int × Int × Int × Int × Int × Int × Int × Int × Int × Bool × Int × Bool ⊕ Int × Int × Int × Int × Int × Int × Int × Int × Int × Int × Bool × Int × Int × Int × Int × Bool × Bool ⊕ Int × Int × Int × Int × Int × Int × Int ×
 Int × Int × Bool × Int × Int × Int × Bool) → Option ρ), (l_1 d k).bind q = l_1 d fun x => (k x).bind q) (x0 : Int) (x1 : Int) (x2 : Int) (k : (Int × Int) → Option ρ) : (K_Z g_Am (@l_0) (@l_1) x0 x1 x2 k).bind q = K_Z g_Am (@l_0) (@l_1) x0 x1 x2 (fun d => (k d).bind q) := by
  simp only [K_Z, bnd_cond, bnd_bind, bnd_none, bnd_sum, hl_0, hl_1]
theorem qa_Z : ∀ b, (QA_Z).em b = ([rU b.1.1, rU b.1.2.1, rU b.1.2.2.1], []) := fun b => by kernel_rfl
theorem e_Z {f : (Int) → (Int) → (Int) → Option (Int × Int)} {args : List AV} {h : List Blk} {r : Res} (hr : (F_Z f args h).eval = some r) : ∃ x0 x1 x2, args = [rU x0, rU x1, rU x2] ∧ h = [] ∧ (f x0 x1 x2).bind (fun (d : Int × Int) => some (Res.mk (AV.tup [RV.c (CV.f (FV.i .u64 d.1)), RV.c (CV.f (FV.i .u64 d.2))]) [] [])) = some r := by
  unfold F_Z at hr
  split at hr
  · rename_i b hb
    have e := ((QA_Z).ok _ _ hb).trans (qa_Z b)
    rw [opt_eval2] at hr
    exact ⟨b.1.1, b.1.2.1, b.1.2.2.1, (Prod.mk.inj e).1, (Prod.mk.inj e).2, hr⟩
  · cases hr
theorem n_Z {σ : Type} (q : (Int × Int) → Option σ) (x0 : Int) (x1 : Int) (x2 : Int) : (f_Z x0 x1 x2).bind q = K_Z f_Am (@L_Z_0) (@L_Z_1) x0 x1 x2 q := by
  unfold f_Z
  exact m_Z q f_Am (@L_Z_0) (@L_Z_1) (fun q d k => mL_Z_0 q d k) (fun q d k => mL_Z_1 q d k) x0 x1 x2 some
theorem s_Z [Amb] : Sound Try.prog 90 (F_Z f_Z) := (inl_sums (l := [(94, F_Am f_Am)]) (.cons s_Am (.nil _)) mixed (hs := ⟨[⟨17, [0, 1, 3, 4, 5, 6, 7, 12, 17, 18, 19, 20, 21, 22, 23, 24, 25, 26, 27, 28, 29, 30, 31, 32, 33, 34, 35, 36, 37, 38, 39, 40, 41, 42, 43, 44, 45, 46, 47, 48, 49, 50, 51, 52, 53,
 54, 55, 56, 57, 58, 59, 60, 61, 62, 63, 64, 65, 66, 67, 68, 69, 78, 79, 80, 81, 82, 83, 84, 85, 86, 87, 88, 89, 90, 91, 92, 93, 94, 95, 96, 97, 98, 99, 100, 101, 102, 103, 104, 113, 114, 115, 116, 117, 118, 119, 120, 121, 122, 123, 124, 125, 126, 127, 128, 129, 130, 131, 132, 133, 134, 70, 71, 72, 73,
 74, 75, 76, 77], []⟩, ⟨24, [0, 1, 3, 4, 5, 6, 7, 11, 12, 13, 19, 20, 21, 22, 23, 24, 25, 26, 27, 28, 29, 30, 31, 32, 33, 34, 35, 36, 37, 38, 39, 40, 41, 42, 43, 44, 45, 46, 47, 48, 49, 50, 51, 52, 53, 54, 55, 56, 57, 58, 59, 60, 61, 62, 63, 64, 65, 66, 67, 68, 69, 70, 71, 72, 73, 74, 75, 76, 77, 78,
 79, 80, 81, 82, 83, 84, 85, 86, 87, 88, 89, 90, 91, 92, 93, 94, 95, 96, 97, 98, 99, 100, 101, 102, 103, 104, 113, 114, 115, 116, 117, 118, 119, 120, 121, 122, 123, 124, 125, 126, 127, 128, 129, 130, 131, 132, 133, 134, 105, 106, 107, 108, 109, 110, 111, 112], []⟩], [⟨17, 0, @R_Z_0 (@L_Z_0)⟩, ⟨24, 0,
 @R_Z_1 (@L_Z_1)⟩], [], [], (some ⟨0, u3GN1, []⟩)⟩) (lf := 200) (Sums.by (l := [loopIn Try.prog 90 17,
 loopIn Try.prog 90 24]) (lj := []) (by kernel_rfl) ⟨so_Z_0, ⟨so_Z_1, trivial⟩⟩ (by kernel_rfl) trivial) (by kernel_rfl)).by (F := F_Z f_Z) fun args b r hr => by
  obtain ⟨x0, x1, x2, rfl, rfl, hr1⟩ := e_Z hr
  exact inl_eval ((d_Z f_Am (@L_Z_0) (@L_Z_1) x0 x1 x2).trans ((n_Z (fun (d : Int × Int) => some (Res.mk (AV.tup [RV.c (CV.f (FV.i .u64 d.1)), RV.c (CV.f (FV.i .u64 d.2))]) [] [])) x0 x1 x2).symm.trans hr1))

def K_AN {ρ : Type} (g_Add64 : C3) (x0 : Int) (x1 : Int) (x2 : Int) (x3 : Int) (k : (Int × Int) → Option ρ) : Option ρ := Option.bind (g_Add64 x1 x3 0) fun (d : Int × Int) => Option.bind (g_Add64 x0 x2 d.2) fun (d_1 : Int × Int) => k (d_1.1, d.1)
def f_AN (x0 : Int) (x1 : Int) (x2 : Int) (x3 : Int) : Option (Int × Int) := K_AN f_Add64  x0 x1 x2 x3 some
section
open Go.Ab.Rdr
def QA_AN := ((pair (cons (ar (ra (cons (gc (cf (fi .u64 hole))) (cons (gc (cf (fi .u64 hole))) nil)))) (cons (ar (ra (cons (gc (cf (fi .u64 hole))) (cons (gc (cf (fi .u64 hole))) nil)))) nil)) nil) : Rdr (List AV × List Blk) _)
end
def F_AN (f : (Int) → (Int) → (Int) → (Int) → Option (Int × Int)) : Sem1 := fun args h => match (QA_AN).rd (args, h) with
  | some b => .opt (f b.1.1.1 b.1.1.2.1 b.1.2.1.1 b.1.2.1.2.1) fun (d : Int × Int) => .leaf (Res.mk (AV.r (RV.agg [sU d.1, sU d.2])) [] [])
  | none => .fail
theorem d_AN (g_Add64 : C3) (x0 : Int) (x1 : Int) (x2 : Int) (x3 : Int) : den Try.prog (envOf [(91, F_carry g_Add64)]) ⟨[], [], [], [], none⟩ 200 83 [.r (.agg [.c (.f (.i .u64 x0)), .c (.f (.i .u64 x1))]), .r (.agg [.c (.f (.i .u64 x2)), .c (.f (.i .u64 x3))])] [] = K_AN g_Add64 x0 x1 x2 x3 (fun (d : Int ×
 Int) => some (Res.mk (AV.r (RV.agg [sU d.1, sU d.2])) [] [])) := by kernel_rfl
theorem m_AN {ρ σ : Type} (q : ρ → Option σ) (g_Add64 : C3)   (x0 : Int) (x1 : Int) (x2 : Int) (x3 : Int) (k : (Int × Int) → Option ρ) : (K_AN g_Add64  x0 x1 x2 x3 k).bind q = K_AN g_Add64  x0 x1 x2 x3 (fun d => (k d).bind q) := by
  simp only [K_AN, bnd_cond, bnd_bind, bnd_none, bnd_sum]
theorem qa_AN : ∀ b, (QA_AN).em b = ([.r (.agg [.c (.f (.i .u64 b.1.1.1)), .c (.f (.i .u64 b.1.1.2.1))]), .r (.agg [.c (.f (.i .u64 b.1.2.1.1)), .c (.f (.i .u64 b.1.2.1.2.1))])], []) := fun b => by kernel_rfl
theorem e_AN {f : (Int) → (Int) → (Int) → (Int) → Option (Int × Int)} {args : List AV} {h : List Blk} {r : Res} (hr : (F_AN f args h).eval = some r) : ∃ x0 x1 x2 x3, args = [.r (.agg [.c (.f (.i .u64 x0)), .c (.f (.i .u64 x1))]), .r (.agg [.c (.f (.i .u64 x2)), .c (.f (.i .u64 x3))])] ∧ h = [] ∧ (f x0 x1 x2 x3).bind (fun (d : Int × Int) => some (Res.mk (AV.r (RV.agg [sU d.1, sU d.2])) [] [])) = some r := by
  unfold F_AN at hr
  split at hr
  · rename_i b hb
    have e := ((QA_AN).ok _ _ hb).trans (qa_AN b)
    rw [opt_eval2] at hr
    exact ⟨b.1.1.1, b.1.1.2.1, b.1.2.1.1, b.1.2.1.2.1, (Prod.mk.inj e).1, (Prod.mk.inj e).2, hr⟩
  · cases hr
theorem n_AN {σ : Type} (q : (Int × Int) → Option σ) (x0 : Int) (x1 : Int) (x2 : Int) (x3 : Int) : (f_AN x0 x1 x2 x3).bind q = K_AN f_Add64  x0 x1 x2 x3 q := by
  unfold f_AN
  exact m_AN q f_Add64   x0 x1 x2 x3 some
theorem s_AN [Amb] : Sound Try.prog 83 (F_AN f_AN) := (inl_sound (l := [(91, F_carry f_Add64)]) (.cons s_Add64 (.nil _)) mixed [] [] 200 (by kernel_rfl)).by (F := F_AN f_AN) fun args b r hr => by
  obtain ⟨x0, x1, x2, x3, rfl, rfl, hr1⟩ := e_AN hr
  exact inl_eval ((d_AN f_Add64  x0 x1 x2 x3).trans ((n_AN (fun (d : Int × Int) => some (Res.mk (AV.r (RV.agg [sU d.1, sU d.2])) [] [])) x0 x1 x2 x3).symm.trans hr1))

def K_AL {ρ : Type} (x0 : Int) (x1 : Int) (x2 : Bool) (k : (Int × Bool) → Option ρ) : Option ρ := bif x0 != 0 then bif x0 != 0 then k (0, false) else bif x2 then k (IntKind.wrap .i64 (IntKind.wrap .u64 (0 - x1)), true) else k (IntKind.wrap .i64 x1, true) else bif !x2 then bif decide (x1 > 9223372036854775807) then
 bif decide (x1 > 9223372036854775807) then k (0, false) else bif x2 then k (IntKind.wrap .i64 (IntKind.wrap .u64 (0 - x1)), true) else k (IntKind.wrap .i64 x1, true) else bif x2 then bif decide (x1 > 9223372036854775808) then k (0, false) else bif x2 then k (IntKind.wrap .i64 (IntKind.wrap .u64 (0 - x1)),
 true) else k (IntKind.wrap .i64 x1, true) else bif x2 then k (IntKind.wrap .i64 (IntKind.wrap .u64 (0 - x1)), true) else k (IntKind.wrap .i64 x1, true) else bif x2 then bif decide (x1 > 9223372036854775808) then k (0, false) else bif x2 then k (IntKind.wrap .i64 (IntKind.wrap .u64 (0 - x1)),
 true) else k (IntKind.wrap .i64 x1, true) else bif x2 then k (IntKind.wrap .i64 (IntKind.wrap .u64 (0 - x1)), true) else k (IntKind.wrap .i64 x1, true)
def f_AL (x0 : Int) (x1 : Int) (x2 : Bool) : Option (Int × Bool) := K_AL   x0 x1 x2 some
section
open Go.Ab.Rdr
def QA_AL := ((pair (cons (ar (ra (cons (gc (cf (fi .u64 hole))) (cons (gc (cf (fi .u64 hole))) nil)))) (cons (ar (rc (cf (fb hole)))) nil)) nil) : Rdr (List AV × List Blk) _)
end
def F_AL (f : (Int) → (Int) → (Bool) → Option (Int × Bool)) : Sem1 := fun args h => match (QA_AL).rd (args, h) with
  | some b => .opt (f b.1.1.1 b.1.1.2.1 b.1.2.1) fun (d : Int × Bool) => .leaf (Res.mk (AV.tup [RV.c (fI d.1), RV.c (CV.f (FV.b d.2))]) [] [])
  | none => .fail
theorem d_AL (x0 : Int) (x1 : Int) (x2 : Bool) : den Try.prog (envOf []) ⟨[], [], [], [], none⟩ 200 84 [.r (.agg [.c (.f (.i .u64 x0)), .c (.f (.i .u64 x1))]), rB x2] [] = K_AL x0 x1 x2 (fun (d : Int × Bool) => some (Res.mk (AV.tup [RV.c (fI d.1), RV.c (CV.f (FV.b d.2))]) [] [])) := by kernel_rfl
theorem m_AL {ρ σ : Type} (q : ρ → Option σ)    (x0 : Int) (x1 : Int) (x2 : Bool) (k : (Int × Bool) → Option ρ) : (K_AL   x0 x1 x2 k).bind q = K_AL   x0 x1 x2 (fun d => (k d).bind q) := by
  simp only [K_AL, bnd_cond, bnd_bind, bnd_none, bnd_sum]
theorem qa_AL : ∀ b, (QA_AL).em b = ([.r (.agg [.c (.f (.i .u64 b.1.1.1)), .c (.f (.i .u64 b.1.1.2.1))]), rB b.1.2.1], []) := fun b => by kernel_rfl
theorem e_AL {f : (Int) → (Int) → (Bool) → Option (Int × Bool)} {args : List AV} {h : List Blk} {r : Res} (hr : (F_AL f args h).eval = some r) : ∃ x0 x1 x2, args = [.r (.agg [.c (.f (.i .u64 x0)), .c (.f (.i .u64 x1))]), rB x2] ∧ h = [] ∧ (f x0 x1 x2).bind (fun (d : Int × Bool) => some (Res.mk (AV.tup [RV.c (fI d.1), RV.c (CV.f (FV.b d.2))]) [] [])) = some r := by
  unfold F_AL at hr
  split at hr
  · rename_i b hb
    have e := ((QA_AL).ok _ _ hb).trans (qa_AL b)
    rw [opt_eval2] at hr
    exact ⟨b.1.1.1, b.1.1.2.1, b.1.2.1, (Prod.mk.inj e).1, (Prod.mk.inj e).2, hr⟩
  · cases hr
theorem n_AL {σ : Type} (q : (Int × Bool) → Option σ) (x0 : Int) (x1 : Int) (x2 : Bool) : (f_AL x0 x1 x2).bind q = K_AL   x0 x1 x2 q := by
  unfold f_AL
  exact m_AL q    x0 x1 x2 some
theorem s_AL [Amb] : Sound Try.prog 84 (F_AL f_AL) := (inl_sound (l := []) (.nil _) mixed [] [] 200 (by kernel_rfl)).by (F := F_AL f_AL) fun args b r hr => by
  obtain ⟨x0, x1, x2, rfl, rfl, hr1⟩ := e_AL hr
  exact inl_eval ((d_AL   x0 x1 x2).trans ((n_AL (fun (d : Int × Bool) => some (Res.mk (AV.tup [RV.c (fI d.1), RV.c (CV.f (FV.b d.2))]) [] [])) x0 x1 x2).symm.trans hr1))

def K_BR {ρ : Type} (g_BB : t10GN1) (g_Ak : t7GN1) (g_Z : t11GN1) (g_AN : t12GN1) (g_AL : t13GN1) (x0 : Int) (x1 : Int) (x2 : Int) (k : (Int × Bool) → Option ρ) : Option ρ := bif x2 == 0 then
 k (0, false) else Option.bind (g_BB x0 x1) fun (d : Int × Int × Bool) => Option.bind (g_Ak x2) fun (d_1 : Int) => bif !decide (d_1 = 0) then bif !decide (d_1 = 0) then Option.bind (g_Z (Int.tmod d.1 d_1) d.2.1 d_1) fun (d_2 : Int × Int) => bif decide (d_2.2 ≥ IntKind.wrap .u64 (d_1 - d_2.2)) then
 Option.bind (g_AN (IntKind.wrap .u64 (Int.tdiv d.1 d_1)) d_2.1 0 1) fun (d_3 : Int × Int) => Option.bind (g_AL d_3.1 d_3.2 !d.2.2 == decide (x2 < 0)) fun (d : Int × Bool) => k (d.1, d.2) else Option.bind (g_AL (IntKind.wrap .u64 (Int.tdiv d.1 d_1)) d_2.1 !d.2.2 == decide (x2 < 0)) fun (d : Int ×
 Bool) => k (d.1, d.2) else none else none
def f_BR (x0 : Int) (x1 : Int) (x2 : Int) : Option (Int × Bool) := K_BR f_BB f_Ak f_Z f_AN f_AL  x0 x1 x2 some
section
open Go.Ab.Rdr
def QA_BR := ((pair (cons (ar (ra (cons (gc (cf (fi .i64 hole))) (cons (gc (cf (fi .u64 hole))) nil)))) (cons (ar (rc (cf (fi .i64 hole)))) nil)) nil) : Rdr (List AV × List Blk) _)
end
def F_BR (f : (Int) → (Int) → (Int) → Option (Int × Bool)) : Sem1 := fun args h => match (QA_BR).rd (args, h) with
  | some b => .opt (f b.1.1.1 b.1.1.2.1 b.1.2.1) fun (d : Int × Bool) => .leaf (Res.mk (AV.tup [RV.c (fI d.1), RV.c (CV.f (FV.b d.2))]) [] [])
  | none => .fail
theorem d_BR (g_BB : t10GN1) (g_Ak : t7GN1) (g_Z : t11GN1) (g_AN : t12GN1) (g_AL : t13GN1) (x0 : Int) (x1 : Int) (x2 : Int) : den Try.prog (envOf [(82, F_BB g_BB),
 (76, F_Ak g_Ak), (90, F_Z g_Z), (83, F_AN g_AN), (84, F_AL g_AL)]) ⟨[], [], [], [], none⟩ 200 74 [.r (.agg [.c (.f (.i .i64 x0)), .c (.f (.i .u64 x1))]), rI x2] [] = K_BR g_BB g_Ak g_Z g_AN g_AL x0 x1 x2 (fun (d : Int × Bool) => some (Res.mk (AV.tup [RV.c (fI d.1),
 RV.c (CV.f (FV.b d.2))]) [] [])) := by kernel_rfl
theorem m_BR {ρ σ : Type} (q : ρ → Option σ) (g_BB : t10GN1) (g_Ak : t7GN1) (g_Z : t11GN1) (g_AN : t12GN1) (g_AL : t13GN1)   (x0 : Int) (x1 : Int) (x2 : Int) (k : (Int × Bool) → Option ρ) : (K_BR g_BB g_Ak g_Z g_AN g_AL  x0 x1 x2 k).bind q = K_BR g_BB g_Ak g_Z g_AN g_AL  x0 x1 x2 (fun d => (k d).bind q) := by
  simp only [K_BR, bnd_cond, bnd_bind, bnd_none, bnd_sum]
theorem qa_BR : ∀ b, (QA_BR).em b = ([.r (.agg [.c (.f (.i .i64 b.1.1.1)), .c (.f (.i .u64 b.1.1.2.1))]), rI b.1.2.1], []) := fun b => by kernel_rfl
theorem e_BR {f : (Int) → (Int) → (Int) → Option (Int × Bool)} {args : List AV} {h : List Blk} {r : Res} (hr : (F_BR f args h).eval = some r) : ∃ x0 x1 x2, args = [.r (.agg [.c (.f (.i .i64 x0)), .c (.f (.i .u64 x1))]), rI x2] ∧ h = [] ∧ (f x0 x1 x2).bind (fun (d : Int × Bool) => some (Res.mk (AV.tup [RV.c (fI d.1), RV.c (CV.f (FV.b d.2))]) [] [])) = some r := by
  unfold F_BR at hr
  split at hr
  · rename_i b hb
    have e := ((QA_BR).ok _ _ hb).trans (qa_BR b)
    rw [opt_eval2] at hr
    exact ⟨b.1.1.1, b.1.1.2.1, b.1.2.1, (Prod.mk.inj e).1, (Prod.mk.inj e).2, hr⟩
  · cases hr
theorem n_BR {σ : Type} (q : (Int × Bool) → Option σ) (x0 : Int) (x1 : Int) (x2 : Int) : (f_BR x0 x1 x2).bind q = K_BR f_BB f_Ak f_Z f_AN f_AL  x0 x1 x2 q := by
  unfold f_BR
  exact m_BR q f_BB f_Ak f_Z f_AN f_AL   x0 x1 x2 some
theorem s_BR [Amb] : Sound Try.prog 74 (F_BR f_BR) := (inl_sound (l := [(82, F_BB f_BB), (76, F_Ak f_Ak), (90, F_Z f_Z), (83, F_AN f_AN), (84, F_AL f_AL)]) (.cons s_BB (.cons s_Ak (.cons s_Z (.cons s_AN (.cons s_AL (.nil _)))))) mixed [] [] 200 (by kernel_rfl)).by (F := F_BR f_BR) fun args b r hr => by
  obtain ⟨x0, x1, x2, rfl, rfl, hr1⟩ := e_BR hr
  exact inl_eval ((d_BR f_BB f_Ak f_Z f_AN f_AL  x0 x1 x2).trans ((n_BR (fun (d : Int × Bool) => some (Res.mk (AV.tup [RV.c (fI d.1), RV.c (CV.f (FV.b d.2))]) [] [])) x0 x1 x2).symm.trans hr1))

def K_Aa {ρ : Type} (g_BH : t14GN1) (g_J : t15GN1) (x0 : Int) (x1 : Bool) (x2 : Bool) (x3 : Bool) (k : (Int × Bool) → Option ρ) : Option ρ := bif !x1 then Option.bind (g_BH x2) fun (d : Int) => k (d, true) else Option.bind (g_J x0 x3) fun (d : Int × Bool) => k (d.1,
 d.2)
def f_Aa (x0 : Int) (x1 : Bool) (x2 : Bool) (x3 : Bool) : Option (Int × Bool) := K_Aa f_BH f_J  x0 x1 x2 x3 some
section
open Go.Ab.Rdr
def QA_Aa := ((pair (cons (ar (rc (cptr (nat 0) (ok' (nat 0)) (nat 1)))) (cons (ar (rc (cf (fi .i64 hole)))) (cons (ar (rc (cf (fb hole)))) (cons (ar (rc (cf (fb hole)))) nil)))) (cons (cons (gc (cf (fb hole))) nil) nil)) : Rdr (List AV × List Blk) _)
end
def F_Aa (f : (Int) → (Bool) → (Bool) → (Bool) → Option (Int × Bool)) : Sem1 := fun args h => match (QA_Aa).rd (args, h) with
  | some b => .opt (f b.1.2.1 b.1.2.2.1 b.1.2.2.2.1 b.2.1.1) fun (d : Int × Bool) => .leaf (Res.mk (rI d.1) [Ch.set [sB d.2]] [])
  | none => .fail
theorem d_Aa (g_BH : t14GN1) (g_J : t15GN1) (x0 : Int) (x1 : Bool) (x2 : Bool) (x3 : Bool) : den Try.prog (envOf [(73, F_BH g_BH), (52, F_J g_J)]) ⟨[], [], [], [], none⟩ 200 64 [.r (.c (.ptr 0 (.k 0) 1)), rI x0, rB x1, rB x2] [[.c (.f (.b x3))]] = K_Aa g_BH g_J x0 x1 x2 x3 (fun (d : Int ×
 Bool) => some (Res.mk (rI d.1) [Ch.set [sB d.2]] [])) := by kernel_rfl
theorem m_Aa {ρ σ : Type} (q : ρ → Option σ) (g_BH : t14GN1) (g_J : t15GN1)   (x0 : Int) (x1 : Bool) (x2 : Bool) (x3 : Bool) (k : (Int × Bool) → Option ρ) : (K_Aa g_BH g_J  x0 x1 x2 x3 k).bind q = K_Aa g_BH g_J  x0 x1 x2 x3 (fun d => (k d).bind q) := by
  simp only [K_Aa, bnd_cond, bnd_bind, bnd_none, bnd_sum]
theorem qa_Aa : ∀ b, (QA_Aa).em b = ([.r (.c (.ptr 0 (.k 0) 1)), rI b.1.2.1, rB b.1.2.2.1, rB b.1.2.2.2.1], [[.c (.f (.b b.2.1.1))]]) := fun b => by kernel_rfl
theorem e_Aa {f : (Int) → (Bool) → (Bool) → (Bool) → Option (Int × Bool)} {args : List AV} {h : List Blk} {r : Res} (hr : (F_Aa f args h).eval = some r) : ∃ x0 x1 x2 x3, args = [.r (.c (.ptr 0 (.k 0) 1)), rI x0, rB x1, rB x2] ∧ h = [[.c (.f (.b x3))]] ∧ (f x0 x1 x2 x3).bind (fun (d : Int × Bool) => some (Res.mk (rI d.1) [Ch.set [sB d.2]] [])) = some r := by
  unfold F_Aa at hr
  split at hr
  · rename_i b hb
    have e := ((QA_Aa).ok _ _ hb).trans (qa_Aa b)
    rw [opt_eval2] at hr
    exact ⟨b.1.2.1, b.1.2.2.1, b.1.2.2.2.1, b.2.1.1, (Prod.mk.inj e).1, (Prod.mk.inj e).2, hr⟩
  · cases hr
theorem n_Aa {σ : Type} (q : (Int × Bool) → Option σ) (x0 : Int) (x1 : Bool) (x2 : Bool) (x3 : Bool) : (f_Aa x0 x1 x2 x3).bind q = K_Aa f_BH f_J  x0 x1 x2 x3 q := by
  unfold f_Aa
  exact m_Aa q f_BH f_J   x0 x1 x2 x3 some
theorem s_Aa [Amb] : Sound Try.prog 64 (F_Aa f_Aa) := (inl_sound (l := [(73, F_BH f_BH), (52, F_J f_J)]) (.cons s_BH (.cons s_J (.nil _))) mixed [] [] 200 (by kernel_rfl)).by (F := F_Aa f_Aa) fun args b r hr => by
  obtain ⟨x0, x1, x2, x3, rfl, rfl, hr1⟩ := e_Aa hr
  exact inl_eval ((d_Aa f_BH f_J  x0 x1 x2 x3).trans ((n_Aa (fun (d : Int × Bool) => some (Res.mk (rI d.1) [Ch.set [sB d.2]] [])) x0 x1 x2 x3).symm.trans hr1))

def K_BC {ρ : Type} (g_BH : t14GN1) (g_BR : t16GN1) (g_Aa : t17GN1) (x0 : Int) (x1 : Int) (x2 : Int) (x3 : Bool) (k : (Int × Bool) → Option ρ) : Option ρ := bif x2 == 0 then bif x0 == 0 && (x1 == 0 && true) then k (0, true) else
 Option.bind (g_BH (decide (x0 < 0))) fun (d : Int) => k (d, true) else Option.bind (g_BR x0 x1 x2) fun (d : Int × Bool) => Option.bind (g_Aa d.1 d.2 (!decide (x0 < 0) == decide (x2 < 0)) x3) fun (d : Int × Bool) => k (d.1, d.2)
def f_BC (x0 : Int) (x1 : Int) (x2 : Int) (x3 : Bool) : Option (Int × Bool) := K_BC f_BH f_BR f_Aa  x0 x1 x2 x3 some
section
open Go.Ab.Rdr
def QA_BC := ((pair (cons (ar (rc (cptr (nat 0) (ok' (nat 0)) (nat 1)))) (cons (ar (ra (cons (gc (cf (fi .i64 hole))) (cons (gc (cf (fi .u64 hole))) nil)))) (cons (ar (rc (cf (fi .i64 hole)))) nil))) (cons (cons (gc (cf (fb hole))) nil) nil)) : Rdr (List AV × List Blk) _)
end
def F_BC (f : (Int) → (Int) → (Int) → (Bool) → Option (Int × Bool)) : Sem1 := fun args h => match (QA_BC).rd (args, h) with
  | some b => .opt (f b.1.2.1.1 b.1.2.1.2.1 b.1.2.2.1 b.2.1.1) fun (d : Int × Bool) => .leaf (Res.mk (rI d.1) [Ch.set [sB d.2]] [])
  | none => .fail
theorem d_BC (g_BH : t14GN1) (g_BR : t16GN1) (g_Aa : t17GN1) (x0 : Int) (x1 : Int) (x2 : Int) (x3 : Bool) : den Try.prog (envOf [(73, F_BH g_BH), (74, F_BR g_BR), (64, F_Aa g_Aa)]) ⟨[], [], [], [], none⟩ 200 50 [.r (.c (.ptr 0 (.k 0) 1)),
 .r (.agg [.c (.f (.i .i64 x0)), .c (.f (.i .u64 x1))]), rI x2] [[.c (.f (.b x3))]] = K_BC g_BH g_BR g_Aa x0 x1 x2 x3 (fun (d : Int × Bool) => some (Res.mk (rI d.1) [Ch.set [sB d.2]] [])) := by kernel_rfl
theorem m_BC {ρ σ : Type} (q : ρ → Option σ) (g_BH : t14GN1) (g_BR : t16GN1) (g_Aa : t17GN1)   (x0 : Int) (x1 : Int) (x2 : Int) (x3 : Bool) (k : (Int × Bool) → Option ρ) : (K_BC g_BH g_BR g_Aa  x0 x1 x2 x3 k).bind q = K_BC g_BH g_BR g_Aa  x0 x1 x2 x3 (fun d => (k d).bind q) := by
  simp only [K_BC, bnd_cond, bnd_bind, bnd_none, bnd_sum]
theorem qa_BC : ∀ b, (QA_BC).em b = ([.r (.c (.ptr 0 (.k 0) 1)), .r (.agg [.c (.f (.i .i64 b.1.2.1.1)), .c (.f (.i .u64 b.1.2.1.2.1))]), rI b.1.2.2.1], [[.c (.f (.b b.2.1.1))]]) := fun b => by kernel_rfl
theorem e_BC {f : (Int) → (Int) → (Int) → (Bool) → Option (Int × Bool)} {args : List AV} {h : List Blk} {r : Res} (hr : (F_BC f args h).eval = some r) : ∃ x0 x1 x2 x3, args = [.r (.c (.ptr 0 (.k 0) 1)), .r (.agg [.c (.f (.i .i64 x0)), .c (.f (.i .u64 x1))]), rI x2] ∧ h = [[.c (.f (.b x3))]] ∧ (f x0 x1 x2 x3).bind (fun (d : Int × Bool) => some (Res.mk (rI d.1) [Ch.set [sB d.2]] [])) = some r := by
  unfold F_BC at hr
  split at hr
  · rename_i b hb
    have e := ((QA_BC).ok _ _ hb).trans (qa_BC b)
    rw [opt_eval2] at hr
    exact ⟨b.1.2.1.1, b.1.2.1.2.1, b.1.2.2.1, b.2.1.1, (Prod.mk.inj e).1, (Prod.mk.inj e).2, hr⟩
  · cases hr
theorem n_BC {σ : Type} (q : (Int × Bool) → Option σ) (x0 : Int) (x1 : Int) (x2 : Int) (x3 : Bool) : (f_BC x0 x1 x2 x3).bind q = K_BC f_BH f_BR f_Aa  x0 x1 x2 x3 q := by
  unfold f_BC
  exact m_BC q f_BH f_BR f_Aa   x0 x1 x2 x3 some
theorem s_BC [Amb] : Sound Try.prog 50 (F_BC f_BC) := (inl_sound (l := [(73, F_BH f_BH), (74, F_BR f_BR), (64, F_Aa f_Aa)]) (.cons s_BH (.cons s_BR (.cons s_Aa (.nil _)))) mixed [] [] 200 (by kernel_rfl)).by (F := F_BC f_BC) fun args b r hr => by
  obtain ⟨x0, x1, x2, x3, rfl, rfl, hr1⟩ := e_BC hr
  exact inl_eval ((d_BC f_BH f_BR f_Aa  x0 x1 x2 x3).trans ((n_BC (fun (d : Int × Bool) => some (Res.mk (rI d.1) [Ch.set [sB d.2]] [])) x0 x1 x2 x3).symm.trans hr1))

def K_AE {ρ : Type} (g_J : t15GN1) (g_BA : t8GN1) (g_BC : t6GN1) (x0 : Int) (x1 : Int) (x2 : Int) (x3 : Bool) (k : (Int × Bool) → Option ρ) : Option ρ := Option.bind (g_J x0 x3) fun (d : Int × Bool) => Option.bind (g_J x1 d.2) fun (d_1 : Int ×
 Bool) => Option.bind (g_BA d.1 d_1.1) fun (d : Int × Int) => Option.bind (g_J x2 d_1.2) fun (d_2 : Int × Bool) => Option.bind (g_BC d.1 d.2 d_2.1 d_2.2) fun (d : Int × Bool) => k (d.1, d.2)
def f_AE (x0 : Int) (x1 : Int) (x2 : Int) (x3 : Bool) : Option (Int × Bool) := K_AE f_J f_BA f_BC  x0 x1 x2 x3 some
section
open Go.Ab.Rdr
def QA_AE := ((pair (cons (ar (rc (cptr (nat 0) (ok' (nat 0)) (nat 1)))) (cons (ar (rc (cf (fi .i64 hole)))) (cons (ar (rc (cf (fi .i64 hole)))) (cons (ar (rc (cf (fi .i64 hole)))) nil)))) (cons (cons (gc (cf (fb hole))) nil) nil)) : Rdr (List AV × List Blk) _)
end
def F_AE (f : (Int) → (Int) → (Int) → (Bool) → Option (Int × Bool)) : Sem1 := fun args h => match (QA_AE).rd (args, h) with
  | some b => .opt (f b.1.2.1 b.1.2.2.1 b.1.2.2.2.1 b.2.1.1) fun (d : Int × Bool) => .leaf (Res.mk (rI d.1) [Ch.set [sB d.2]] [])
  | none => .fail
theorem d_AE (g_J : t15GN1) (g_BA : t8GN1) (g_BC : t6GN1) (x0 : Int) (x1 : Int) (x2 : Int) (x3 : Bool) : den Try.prog (envOf [(52, F_J g_J), (51, F_BA g_BA), (50, F_BC g_BC)]) ⟨[], [], [], [], none⟩ 200 28 [.r (.c (.ptr 0 (.k 0) 1)),
 rI x0, rI x1, rI x2] [[.c (.f (.b x3))]] = K_AE g_J g_BA g_BC x0 x1 x2 x3 (fun (d : Int × Bool) => some (Res.mk (rI d.1) [Ch.set [sB d.2]] [])) := by kernel_rfl
theorem m_AE {ρ σ : Type} (q : ρ → Option σ) (g_J : t15GN1) (g_BA : t8GN1) (g_BC : t6GN1)   (x0 : Int) (x1 : Int) (x2 : Int) (x3 : Bool) (k : (Int × Bool) → Option ρ) : (K_AE g_J g_BA g_BC  x0 x1 x2 x3 k).bind q = K_AE g_J g_BA g_BC  x0 x1 x2 x3 (fun d => (k d).bind q) := by
  simp only [K_AE, bnd_cond, bnd_bind, bnd_none, bnd_sum]
theorem qa_AE : ∀ b, (QA_AE).em b = ([.r (.c (.ptr 0 (.k 0) 1)), rI b.1.2.1, rI b.1.2.2.1, rI b.1.2.2.2.1], [[.c (.f (.b b.2.1.1))]]) := fun b => by kernel_rfl
theorem e_AE {f : (Int) → (Int) → (Int) → (Bool) → Option (Int × Bool)} {args : List AV} {h : List Blk} {r : Res} (hr : (F_AE f args h).eval = some r) : ∃ x0 x1 x2 x3, args = [.r (.c (.ptr 0 (.k 0) 1)), rI x0, rI x1, rI x2] ∧ h = [[.c (.f (.b x3))]] ∧ (f x0 x1 x2 x3).bind (fun (d : Int × Bool) => some (Res.mk (rI d.1) [Ch.set [sB d.2]] [])) = some r := by
  unfold F_AE at hr
  split at hr
  · rename_i b hb
    have e := ((QA_AE).ok _ _ hb).trans (qa_AE b)
    rw [opt_eval2] at hr
    exact ⟨b.1.2.1, b.1.2.2.1, b.1.2.2.2.1, b.2.1.1, (Prod.mk.inj e).1, (Prod.mk.inj e).2, hr⟩
  · cases hr
theorem n_AE {σ : Type} (q : (Int × Bool) → Option σ) (x0 : Int) (x1 : Int) (x2 : Int) (x3 : Bool) : (f_AE x0 x1 x2 x3).bind q = K_AE f_J f_BA f_BC  x0 x1 x2 x3 q := by
  unfold f_AE
  exact m_AE q f_J f_BA f_BC   x0 x1 x2 x3 some
theorem s_AE [Amb] : Sound Try.prog 28 (F_AE f_AE) := (inl_sound (l := [(52, F_J f_J), (51, F_BA f_BA), (50, F_BC f_BC)]) (.cons s_J (.cons s_BA (.cons s_BC (.nil _)))) mixed [] [] 200 (by kernel_rfl)).by (F := F_AE f_AE) fun args b r hr => by
  obtain ⟨x0, x1, x2, x3, rfl, rfl, hr1⟩ := e_AE hr
  exact inl_eval ((d_AE f_J f_BA f_BC  x0 x1 x2 x3).trans ((n_AE (fun (d : Int × Bool) => some (Res.mk (rI d.1) [Ch.set [sB d.2]] [])) x0 x1 x2 x3).symm.trans hr1))

def K_BI {ρ : Type} (g_AE : t6GN1) (g_Aj : t6GN1) (x0 : Int) (k : (Int) → Option ρ) : Option ρ := Option.bind (g_AE (IntKind.wrap .i64 (x0 * x0)) 17592186044416 1000000 false) fun (d : Int × Bool) => Option.bind (g_Aj d.1 1 72057594037927936 d.2) fun (d : Int ×
 Bool) => k d.1
def f_BI (x0 : Int) : Option (Int) := K_BI f_AE f_Aj  x0 some
section
open Go.Ab.Rdr
def QA_BI := ((pair (cons (ar (rc (cf (fi .i64 hole)))) nil) nil) : Rdr (List AV × List Blk) _)
end
def F_BI (f : (Int) → Option (Int)) : Sem1 := fun args h => match (QA_BI).rd (args, h) with
  | some b => .opt (f b.1.1) fun (d : Int) => .leaf (Res.mk (rI d) [] [])
  | none => .fail
theorem d_BI (g_AE : t6GN1) (g_Aj : t6GN1) (x0 : Int) : den Try.prog (envOf [(28, F_AE g_AE), (37, F_Aj g_Aj)]) ⟨[], [], [], [], none⟩ 200 27 [rI x0] [] = K_BI g_AE g_Aj x0 (fun (d : Int) => some (Res.mk (rI d) [] [])) := by kernel_rfl
theorem m_BI {ρ σ : Type} (q : ρ → Option σ) (g_AE : t6GN1) (g_Aj : t6GN1)   (x0 : Int) (k : (Int) → Option ρ) : (K_BI g_AE g_Aj  x0 k).bind q = K_BI g_AE g_Aj  x0 (fun d => (k d).bind q) := by
  simp only [K_BI, bnd_cond, bnd_bind, bnd_none, bnd_sum]
theorem qa_BI : ∀ b, (QA_BI).em b = ([rI b.1.1], []) := fun b => by kernel_rfl
theorem e_BI {f : (Int) → Option (Int)} {args : List AV} {h : List Blk} {r : Res} (hr : (F_BI f args h).eval = some r) : ∃ x0, args = [rI x0] ∧ h = [] ∧ (f x0).bind (fun (d : Int) => some (Res.mk (rI d) [] [])) = some r := by
  unfold F_BI at hr
  split at hr
  · rename_i b hb
    have e := ((QA_BI).ok _ _ hb).trans (qa_BI b)
    rw [opt_eval2] at hr
    exact ⟨b.1.1, (Prod.mk.inj e).1, (Prod.mk.inj e).2, hr⟩
  · cases hr
theorem n_BI {σ : Type} (q : (Int) → Option σ) (x0 : Int) : (f_BI x0).bind q = K_BI f_AE f_Aj  x0 q := by
  unfold f_BI
  exact m_BI q f_AE f_Aj   x0 some
theorem s_BI [Amb] : Sound Try.prog 27 (F_BI f_BI) := (inl_sound (l := [(28, F_AE f_AE), (37, F_Aj f_Aj)]) (.cons s_AE (.cons s_Aj (.nil _))) mixed [] [] 200 (by kernel_rfl)).by (F := F_BI f_BI) fun args b r hr => by
  obtain ⟨x0, rfl, rfl, hr1⟩ := e_BI hr
  exact inl_eval ((d_BI f_AE f_Aj  x0).trans ((n_BI (fun (d : Int) => some (Res.mk (rI d) [] [])) x0).symm.trans hr1))

end Go.Proofs.Ytdpenjncfmkbgaa
