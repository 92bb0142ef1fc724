/-
  The carries of math/bits, as they stand in the program. The carries of math/bits, as they stand in the program. Parts of long tuples; cells in short. Contracts by plain functions: astrolabelaw19.sample, gnss.place, earth.Good, gnss.Good, (*fx.Acc).Clamp, (*fx.Acc).Sat, wide.abs64, math/bits.Mul64, wide.signed, wide.Mul, fx.sign, wide.abs, math/bits.Len64, math/bits.LeadingZeros64, math/bits.Div64, (wide.big).plus, wide.signed64, wide.Div, (*fx.Acc).end, (*fx.Acc).by, (*fx.Acc).MulDiv, gnss.variance
-/
import Derived.Test.YtdpenjncfmkbgaaAbNil
set_option linter.unusedVariables false
set_option linter.unusedSimpArgs false
namespace Go.Proofs.Ytdpenjncfmkbgaa
open Go.Ab
theorem s_Add64 [Amb] : Sound Try.prog 91 (F_carry f_Add64) := carry_of (add64_sound (fn := Try.f91) Try.func91 (by kernel_rfl) (by kernel_rfl) (by kernel_rfl) (by kernel_rfl))
end Go.Proofs.Ytdpenjncfmkbgaa
namespace Go.Proofs.Ytdpenjncfmkbgaa
open Go.Ab
theorem s_Sub64 [Amb] : Sound Try.prog 95 (F_carry f_Sub64) := carry_of (sub64_sound (fn := Try.f95) Try.func95 (by kernel_rfl) (by kernel_rfl) (by kernel_rfl) (by kernel_rfl))
end Go.Proofs.Ytdpenjncfmkbgaa
namespace Go.Ab
@[reducible] def _root_.Prod.c4 {a b c d e : Type} (x : a × b × c × d × e) : e := x.2.2.2.2
@[reducible] def _root_.Prod.c8 {a b c d e f g h i : Type} (x : a × b × c × d × e × f × g × h × i) : i := x.2.2.2.2.2.2.2.2
@[reducible] def _root_.Prod.c16 {a b c d e f g h i j k l m n o p q : Type} (x : a × b × c × d × e × f × g × h × i × j × k × l × m × n × o × p × q) : q := x.2.2.2.2.2.2.2.2.2.2.2.2.2.2.2.2
abbrev NI := Nat → Int
abbrev un : AV := .und
abbrev kI (g : Nat → Int) : Col := .i .i64 g
abbrev fI (n : Int) : CV := .f (.i .i64 n)
abbrev rI (n : Int) : AV := .r (.c (.f (.i .i64 n)))
abbrev rU (n : Int) : AV := .r (.c (.f (.i .u64 n)))
abbrev rB (n : Bool) : AV := .r (.c (.f (.b n)))
abbrev sI (n : Int) : Sg := .c (.f (.i .i64 n))
abbrev sU (n : Int) : Sg := .c (.f (.i .u64 n))
abbrev sB (n : Bool) : Sg := .c (.f (.b n))
end Go.Ab
set_option maxRecDepth 100000
set_option maxHeartbeats 4000000
set_option linter.unusedVariables false
namespace Go.Proofs.Ytdpenjncfmkbgaa
open Go.Ab
abbrev u0GN1 : List Nat := [0, 1, 3, 4, 5, 6, 7, 8, 9, 10, 11, 12, 13, 14, 15, 16, 17, 18, 19, 20, 21, 22, 23, 24, 25, 26, 27, 28, 29, 30, 31, 32, 33, 34, 35, 36, 37]
abbrev u1GN1 : List Nat := [1, 3, 4, 5, 6, 7, 8, 9, 10, 11, 12, 13, 14, 15, 16, 17, 18, 19, 20, 21, 22, 23, 24]
abbrev u2GN1 : List Nat := [0, 1, 3, 4, 5, 6, 7, 8, 9, 10, 11, 12, 13, 14, 15, 16, 17, 18, 19, 20, 21, 22, 23, 24]
abbrev u3GN1 : List Nat := [0, 1, 2, 3, 4, 5, 8, 9, 10, 11, 12, 13, 14, 15, 16, 17, 18, 19, 20, 21, 22, 23, 24, 25, 26, 27, 28, 29, 30, 31, 32, 33, 34, 35, 36, 37, 38, 39, 40, 41, 42, 43, 44, 45, 46, 47, 48, 49, 50, 51, 52, 53, 54, 55, 56, 57, 58, 59, 60, 61, 62, 63, 64, 65, 66, 67, 68, 69, 70, 71, 72, 73, 74, 75, 76, 77, 78, 79, 80, 81, 82, 83, 84, 85, 86, 87, 88, 89, 90, 91, 92, 93, 94, 95, 96, 97, 98, 99, 100, 101, 102, 103, 104, 105, 106, 107, 108, 109, 110, 111, 112, 113, 114, 115, 116, 117, 118, 119, 120, 121, 122, 123, 124, 125, 126, 127, 128, 129, 130, 131, 132, 133, 134]
abbrev t4GN1 := Int → Int → Int → Int → Int → Int → Int → Int → Int → Option (Int × Int × Int)
abbrev t5GN1 := Int → Int → Int → Option Bool
abbrev t6GN1 := Int → Int → Int → Bool → Option (Int × Bool)
abbrev t7GN1 := Int → Option Int
abbrev t8GN1 := Int → Int → Option (Int × Int)
abbrev t9GN1 := Int → Int → Bool → Option (Int × Int × Bool)
abbrev t10GN1 := Int → Int → Option (Int × Int × Bool)
abbrev t11GN1 := Int → Int → Int → Option (Int × Int)
abbrev t12GN1 := Int → Int → Int → Int → Option (Int × Int)
abbrev t13GN1 := Int → Int → Bool → Option (Int × Bool)
abbrev t14GN1 := Bool → Option Int
abbrev t15GN1 := Int → Bool → Option (Int × Bool)
abbrev t16GN1 := Int → Int → Int → Option (Int × Bool)
abbrev t17GN1 := Int → Bool → Bool → Bool → Option (Int × Bool)
def K_BA {ρ : Type} (k : (Unit) → Option ρ) : Option ρ := k ()
def f_BA  : Option (Unit) := K_BA    some
section
open Go.Ab.Rdr
def QA_BA := ((pair nil nil) : Rdr (List AV × List Blk) _)
end
def F_BA (f : Option (Unit)) : Sem1 := fun args h => match (QA_BA).rd (args, h) with
  | some b => .opt (f ) fun (d : Unit) => .leaf (Res.mk
    (AV.r
      (RV.agg
        [sI 5, sI 0, sI 0, sI 0, sI 1000,
          sI 0, sI 0, sI 1000, sI 100]))
    [] [])
  | none => .fail
theorem d_BA : den Try.prog (envOf []) ⟨[], [], [], [], none⟩ 200 8 [] [] = K_BA (fun (d : Unit) => some (Res.mk (AV.r (RV.agg [sI 5, sI 0, sI 0, sI 0, sI 1000,
 sI 0, sI 0, sI 1000, sI 100])) [] [])) := by kernel_rfl
theorem m_BA {ρ σ : Type} (q : ρ → Option σ)     (k : (Unit) → Option ρ) : (K_BA    k).bind q = K_BA    (fun d => (k d).bind q) := by
  simp only [K_BA, bnd_cond, bnd_bind, bnd_none, bnd_sum]
theorem qa_BA : ∀ b, (QA_BA).em b = ([], []) := fun b => by kernel_rfl
theorem e_BA {f : Option (Unit)} {args : List AV} {h : List Blk} {r : Res} (hr : (F_BA f args h).eval = some r) : args = [] ∧ h = [] ∧ (f ).bind (fun (d : Unit) => some (Res.mk (AV.r (RV.agg [sI 5, sI 0, sI 0, sI 0,
 sI 1000, sI 0, sI 0, sI 1000, sI 100])) [] [])) = some r := by
  unfold F_BA at hr
  split at hr
  · rename_i b hb
    have e := ((QA_BA).ok _ _ hb).trans (qa_BA b)
    rw [opt_eval2] at hr
    exact ⟨(Prod.mk.inj e).1, (Prod.mk.inj e).2, hr⟩
  · cases hr
theorem n_BA {σ : Type} (q : (Unit) → Option σ)  : (f_BA ).bind q = K_BA    q := by
  unfold f_BA
  exact m_BA q     some
theorem s_BA [Amb] : Sound Try.prog 8 (F_BA f_BA) := (inl_sound (l := []) (.nil _) mixed [] [] 200 (by kernel_rfl)).by (F := F_BA f_BA) fun args b r hr => by
  obtain ⟨rfl, rfl, hr1⟩ := e_BA hr
  exact inl_eval ((d_BA   ).trans ((n_BA (fun (d : Unit) => some (Res.mk
    (AV.r
      (RV.agg
        [sI 5, sI 0, sI 0, sI 0, sI 1000,
          sI 0, sI 0, sI 1000, sI 100]))
    [] [])) ).symm.trans hr1))

def K_AR {ρ : Type} (x0 : Int) (x1 : Int) (x2 : Int) (x3 : Int) (x4 : Int) (x5 : Int) (x6 : Int) (x7 : Int) (x8 : Int) (k : (Int × Int × Int) → Option ρ) : Option ρ := k (x1, x2, x3)
def f_AR (x0 : Int) (x1 : Int) (x2 : Int) (x3 : Int) (x4 : Int) (x5 : Int) (x6 : Int) (x7 : Int) (x8 : Int) : Option (Int × Int × Int) := K_AR   x0 x1 x2 x3 x4 x5 x6 x7 x8 some
section
open Go.Ab.Rdr
def QA_AR := ((pair (cons (ar (ra (cons (gc (cf (fi .i64 hole))) (cons (gc (cf (fi .i64 hole))) (cons (gc (cf (fi .i64 hole))) (cons (gc (cf (fi .i64 hole))) (cons (gc (cf (fi .i64 hole))) (cons (gc (cf (fi .i64 hole))) (cons (gc (cf (fi .i64 hole))) (cons (gc (cf (fi .i64 hole))) (cons (gc (cf (fi .i64 hole))) nil))))))))))) nil) nil) : Rdr (List AV × List Blk) _)
end
def F_AR (f : (Int) → (Int) → (Int) → (Int) → (Int) → (Int) → (Int) → (Int) → (Int) → Option (Int × Int × Int)) : Sem1 := fun args h => match (QA_AR).rd (args, h) with
  | some b => .opt (f b.1.1.1 b.1.1.2.1 b.1.1.2.2.1 b.1.1.2.2.2.1 b.1.1.c4.1 b.1.1.c4.2.1 b.1.1.c4.2.2.1 b.1.1.c4.2.2.2.1 b.1.1.c8.1) fun (d : Int × Int × Int) => .leaf (Res.mk (AV.r (RV.agg [sI d.1, sI d.2.1, sI d.2.2])) [] [])
  | none => .fail
theorem d_AR (x0 : Int) (x1 : Int) (x2 : Int) (x3 : Int) (x4 : Int) (x5 : Int) (x6 : Int) (x7 : Int) (x8 : Int) : den Try.prog (envOf []) ⟨[], [], [], [], none⟩ 200 26 [.r (.agg [.c (.f (.i .i64 x0)), .c (.f (.i .i64 x1)), .c (.f (.i .i64 x2)), .c (.f (.i .i64 x3)), .c (.f (.i .i64 x4)), .c (.f (.i .i64 x5)),
 .c (.f (.i .i64 x6)), .c (.f (.i .i64 x7)), .c (.f (.i .i64 x8))])] [] = K_AR x0 x1 x2 x3 x4 x5 x6 x7 x8 (fun (d : Int × Int × Int) => some (Res.mk (AV.r (RV.agg [sI d.1, sI d.2.1, sI d.2.2])) [] [])) := by kernel_rfl
theorem m_AR {ρ σ : Type} (q : ρ → Option σ)    (x0 : Int) (x1 : Int) (x2 : Int) (x3 : Int) (x4 : Int) (x5 : Int) (x6 : Int) (x7 : Int) (x8 : Int) (k : (Int × Int × Int) → Option ρ) : (K_AR   x0 x1 x2 x3 x4 x5 x6 x7 x8 k).bind q = K_AR   x0 x1 x2 x3 x4 x5 x6 x7 x8 (fun d => (k d).bind q) := by
  simp only [K_AR, bnd_cond, bnd_bind, bnd_none, bnd_sum]
theorem qa_AR : ∀ b, (QA_AR).em b = ([.r (.agg [.c (.f (.i .i64 b.1.1.1)), .c (.f (.i .i64 b.1.1.2.1)), .c (.f (.i .i64 b.1.1.2.2.1)), .c (.f (.i .i64 b.1.1.2.2.2.1)), .c (.f (.i .i64 b.1.1.c4.1)), .c (.f (.i .i64 b.1.1.c4.2.1)), .c (.f (.i .i64 b.1.1.c4.2.2.1)), .c (.f (.i .i64 b.1.1.c4.2.2.2.1)), .c (.f (.i .i64 b.1.1.c8.1))])], []) := fun b => by kernel_rfl
theorem e_AR {f : (Int) → (Int) → (Int) → (Int) → (Int) → (Int) → (Int) → (Int) → (Int) → Option (Int × Int × Int)} {args : List AV} {h : List Blk} {r : Res} (hr : (F_AR f args h).eval = some r) : ∃ x0 x1 x2 x3 x4 x5 x6 x7 x8, args = [.r (.agg [.c (.f (.i .i64 x0)), .c (.f (.i .i64 x1)), .c (.f (.i .i64 x2)), .c (.f (.i .i64 x3)), .c (.f (.i .i64 x4)), .c (.f (.i .i64 x5)), .c (.f (.i .i64 x6)), .c (.f (.i .i64 x7)), .c (.f (.i .i64 x8))])] ∧ h = [] ∧ (f x0 x1 x2 x3 x4 x5 x6 x7 x8).bind (fun (d : Int × Int × Int) => some (Res.mk (AV.r (RV.agg [sI d.1, sI d.2.1, sI d.2.2])) [] [])) = some r := by
  unfold F_AR at hr
  split at hr
  · rename_i b hb
    have e := ((QA_AR).ok _ _ hb).trans (qa_AR b)
    rw [opt_eval2] at hr
    exact ⟨b.1.1.1, b.1.1.2.1, b.1.1.2.2.1, b.1.1.2.2.2.1, b.1.1.c4.1, b.1.1.c4.2.1, b.1.1.c4.2.2.1, b.1.1.c4.2.2.2.1, b.1.1.c8.1, (Prod.mk.inj e).1, (Prod.mk.inj e).2, hr⟩
  · cases hr
theorem n_AR {σ : Type} (q : (Int × Int × Int) → Option σ) (x0 : Int) (x1 : Int) (x2 : Int) (x3 : Int) (x4 : Int) (x5 : Int) (x6 : Int) (x7 : Int) (x8 : Int) : (f_AR x0 x1 x2 x3 x4 x5 x6 x7 x8).bind q = K_AR   x0 x1 x2 x3 x4 x5 x6 x7 x8 q := by
  unfold f_AR
  exact m_AR q    x0 x1 x2 x3 x4 x5 x6 x7 x8 some
theorem s_AR [Amb] : Sound Try.prog 26 (F_AR f_AR) := (inl_sound (l := []) (.nil _) mixed [] [] 200 (by kernel_rfl)).by (F := F_AR f_AR) fun args b r hr => by
  obtain ⟨x0, x1, x2, x3, x4, x5, x6, x7, x8, rfl, rfl, hr1⟩ := e_AR hr
  exact inl_eval ((d_AR   x0 x1 x2 x3 x4 x5 x6 x7 x8).trans ((n_AR (fun (d : Int × Int × Int) => some (Res.mk (AV.r (RV.agg [sI d.1, sI d.2.1, sI d.2.2])) [] [])) x0 x1 x2 x3 x4 x5 x6 x7 x8).symm.trans hr1))

def K_AN {ρ : Type} (x0 : Int) (x1 : Int) (x2 : Int) (k : (Bool) → Option ρ) : Option ρ := bif decide (x0 ≥ -900000000) then bif decide (x0 ≤ 900000000) then bif decide (x1 ≥ -1800000000) then bif decide (x1 ≤ 1800000000) then bif decide (x2 ≥ -100000000) then k (decide (x2 ≤ 100000000)) else k false else
 k false else k false else k false else k false
def f_AN (x0 : Int) (x1 : Int) (x2 : Int) : Option (Bool) := K_AN   x0 x1 x2 some
section
open Go.Ab.Rdr
def QA_AN := ((pair (cons (ar (ra (cons (gc (cf (fi .i64 hole))) (cons (gc (cf (fi .i64 hole))) (cons (gc (cf (fi .i64 hole))) nil))))) nil) nil) : Rdr (List AV × List Blk) _)
end
def F_AN (f : (Int) → (Int) → (Int) → Option (Bool)) : Sem1 := fun args h => match (QA_AN).rd (args, h) with
  | some b => .opt (f b.1.1.1 b.1.1.2.1 b.1.1.2.2.1) fun (d : Bool) => .leaf (Res.mk (rB d) [] [])
  | none => .fail
theorem d_AN (x0 : Int) (x1 : Int) (x2 : Int) : den Try.prog (envOf []) ⟨[], [], [], [], none⟩ 200 20 [.r (.agg [.c (.f (.i .i64 x0)), .c (.f (.i .i64 x1)), .c (.f (.i .i64 x2))])] [] = K_AN x0 x1 x2 (fun (d : Bool) => some (Res.mk (rB d) [] [])) := by kernel_rfl
theorem m_AN {ρ σ : Type} (q : ρ → Option σ)    (x0 : Int) (x1 : Int) (x2 : Int) (k : (Bool) → Option ρ) : (K_AN   x0 x1 x2 k).bind q = K_AN   x0 x1 x2 (fun d => (k d).bind q) := by
  simp only [K_AN, bnd_cond, bnd_bind, bnd_none, bnd_sum]
theorem qa_AN : ∀ b, (QA_AN).em b = ([.r (.agg [.c (.f (.i .i64 b.1.1.1)), .c (.f (.i .i64 b.1.1.2.1)), .c (.f (.i .i64 b.1.1.2.2.1))])], []) := fun b => by kernel_rfl
theorem e_AN {f : (Int) → (Int) → (Int) → Option (Bool)} {args : List AV} {h : List Blk} {r : Res} (hr : (F_AN f args h).eval = some r) : ∃ x0 x1 x2, args = [.r (.agg [.c (.f (.i .i64 x0)), .c (.f (.i .i64 x1)), .c (.f (.i .i64 x2))])] ∧ h = [] ∧ (f x0 x1 x2).bind (fun (d : Bool) => some (Res.mk (rB d) [] [])) = some r := by
  unfold F_AN at hr
  split at hr
  · rename_i b hb
    have e := ((QA_AN).ok _ _ hb).trans (qa_AN b)
    rw [opt_eval2] at hr
    exact ⟨b.1.1.1, b.1.1.2.1, b.1.1.2.2.1, (Prod.mk.inj e).1, (Prod.mk.inj e).2, hr⟩
  · cases hr
theorem n_AN {σ : Type} (q : (Bool) → Option σ) (x0 : Int) (x1 : Int) (x2 : Int) : (f_AN x0 x1 x2).bind q = K_AN   x0 x1 x2 q := by
  unfold f_AN
  exact m_AN q    x0 x1 x2 some
theorem s_AN [Amb] : Sound Try.prog 20 (F_AN f_AN) := (inl_sound (l := []) (.nil _) mixed [] [] 200 (by kernel_rfl)).by (F := F_AN f_AN) fun args b r hr => by
  obtain ⟨x0, x1, x2, rfl, rfl, hr1⟩ := e_AN hr
  exact inl_eval ((d_AN   x0 x1 x2).trans ((n_AN (fun (d : Bool) => some (Res.mk (rB d) [] [])) x0 x1 x2).symm.trans hr1))

def K_AO {ρ : Type} (g_AR : t4GN1) (g_AN : t5GN1) (x0 : Int) (x1 : Int) (x2 : Int) (x3 : Int) (x4 : Int) (x5 : Int) (x6 : Int) (x7 : Int) (x8 : Int) (k : (Bool) → Option ρ) : Option ρ := bif decide (x4 < -1000000) then
 k false else bif decide (x4 > 1000000) then k false else bif decide (x5 < -1000000) then k false else bif decide (x5 > 1000000) then k false else bif decide (x6 < -1000000) then k false else bif decide (x6 > 1000000) then k false else bif decide (x7 < 1) then k false else bif decide (x7 > 1000000) then
 k false else bif decide (x8 < 1) then k false else bif decide (x8 > 1000000) then k false else Option.bind (g_AR x0 x1 x2 x3 x4 x5 x6 x7 x8) fun (d : Int × Int × Int) => Option.bind (g_AN d.1 d.2.1 d.2.2) fun (d : Bool) => k d
def f_AO (x0 : Int) (x1 : Int) (x2 : Int) (x3 : Int) (x4 : Int) (x5 : Int) (x6 : Int) (x7 : Int) (x8 : Int) : Option (Bool) := K_AO f_AR f_AN  x0 x1 x2 x3 x4 x5 x6 x7 x8 some
section
open Go.Ab.Rdr
def QA_AO := ((pair (cons (ar (ra (cons (gc (cf (fi .i64 hole))) (cons (gc (cf (fi .i64 hole))) (cons (gc (cf (fi .i64 hole))) (cons (gc (cf (fi .i64 hole))) (cons (gc (cf (fi .i64 hole))) (cons (gc (cf (fi .i64 hole))) (cons (gc (cf (fi .i64 hole))) (cons (gc (cf (fi .i64 hole))) (cons (gc (cf (fi .i64 hole))) nil))))))))))) nil) nil) : Rdr (List AV × List Blk) _)
end
def F_AO (f : (Int) → (Int) → (Int) → (Int) → (Int) → (Int) → (Int) → (Int) → (Int) → Option (Bool)) : Sem1 := fun args h => match (QA_AO).rd (args, h) with
  | some b => .opt (f b.1.1.1 b.1.1.2.1 b.1.1.2.2.1 b.1.1.2.2.2.1 b.1.1.c4.1 b.1.1.c4.2.1 b.1.1.c4.2.2.1 b.1.1.c4.2.2.2.1 b.1.1.c8.1) fun (d : Bool) => .leaf (Res.mk (rB d) [] [])
  | none => .fail
theorem d_AO (g_AR : t4GN1) (g_AN : t5GN1) (x0 : Int) (x1 : Int) (x2 : Int) (x3 : Int) (x4 : Int) (x5 : Int) (x6 : Int) (x7 : Int) (x8 : Int) : den Try.prog (envOf [(26, F_AR g_AR), (20, F_AN g_AN)]) ⟨[⟨2,
 [0, 3, 4, 5, 6, 7, 11, 12, 13, 14, 15, 16, 19, 20, 21, 22, 23, 24, 25, 26, 27, 28, 29, 30, 33, 34, 35, 36, 37, 17, 18], []⟩, ⟨8, [0, 3, 4, 5, 6, 7, 8, 9, 10, 11, 12, 13, 14, 15, 16, 17, 18, 19, 20, 21, 25, 26, 27, 28, 29, 30, 33, 34, 35, 36, 37, 31, 32], []⟩], [], [], [], (some ⟨0, u0GN1, []⟩)⟩ 200 13 [.r (.agg [.c (.f (.i .i64 x0)), .c (.f (.i .i64 x1)), .c (.f (.i .i64 x2)), .c (.f (.i .i64 x3)), .c (.f (.i .i64 x4)), .c (.f (.i .i64 x5)), .c (.f (.i .i64 x6)), .c (.f (.i .i64 x7)),
 .c (.f (.i .i64 x8))])] [] = K_AO g_AR g_AN x0 x1 x2 x3 x4 x5 x6 x7 x8 (fun (d : Bool) => some (Res.mk (rB d) [] [])) := by kernel_rfl
theorem m_AO {ρ σ : Type} (q : ρ → Option σ) (g_AR : t4GN1) (g_AN : t5GN1)   (x0 : Int) (x1 : Int) (x2 : Int) (x3 : Int) (x4 : Int) (x5 : Int) (x6 : Int) (x7 : Int) (x8 : Int) (k : (Bool) → Option ρ) : (K_AO g_AR g_AN  x0 x1 x2 x3 x4 x5 x6 x7 x8 k).bind q = K_AO g_AR g_AN  x0 x1 x2 x3 x4 x5 x6 x7 x8 (fun d => (k d).bind q) := by
  simp only [K_AO, bnd_cond, bnd_bind, bnd_none, bnd_sum]
theorem qa_AO : ∀ b, (QA_AO).em b = ([.r (.agg [.c (.f (.i .i64 b.1.1.1)), .c (.f (.i .i64 b.1.1.2.1)), .c (.f (.i .i64 b.1.1.2.2.1)), .c (.f (.i .i64 b.1.1.2.2.2.1)), .c (.f (.i .i64 b.1.1.c4.1)), .c (.f (.i .i64 b.1.1.c4.2.1)), .c (.f (.i .i64 b.1.1.c4.2.2.1)), .c (.f (.i .i64 b.1.1.c4.2.2.2.1)), .c (.f (.i .i64 b.1.1.c8.1))])], []) := fun b => by kernel_rfl
theorem e_AO {f : (Int) → (Int) → (Int) → (Int) → (Int) → (Int) → (Int) → (Int) → (Int) → Option (Bool)} {args : List AV} {h : List Blk} {r : Res} (hr : (F_AO f args h).eval = some r) : ∃ x0 x1 x2 x3 x4 x5 x6 x7 x8, args = [.r (.agg [.c (.f (.i .i64 x0)), .c (.f (.i .i64 x1)), .c (.f (.i .i64 x2)), .c (.f (.i .i64 x3)), .c (.f (.i .i64 x4)), .c (.f (.i .i64 x5)), .c (.f (.i .i64 x6)), .c (.f (.i .i64 x7)), .c (.f (.i .i64 x8))])] ∧ h = [] ∧ (f x0 x1 x2 x3 x4 x5 x6 x7 x8).bind (fun (d : Bool) => some (Res.mk (rB d) [] [])) = some r := by
  unfold F_AO at hr
  split at hr
  · rename_i b hb
    have e := ((QA_AO).ok _ _ hb).trans (qa_AO b)
    rw [opt_eval2] at hr
    exact ⟨b.1.1.1, b.1.1.2.1, b.1.1.2.2.1, b.1.1.2.2.2.1, b.1.1.c4.1, b.1.1.c4.2.1, b.1.1.c4.2.2.1, b.1.1.c4.2.2.2.1, b.1.1.c8.1, (Prod.mk.inj e).1, (Prod.mk.inj e).2, hr⟩
  · cases hr
theorem n_AO {σ : Type} (q : (Bool) → Option σ) (x0 : Int) (x1 : Int) (x2 : Int) (x3 : Int) (x4 : Int) (x5 : Int) (x6 : Int) (x7 : Int) (x8 : Int) : (f_AO x0 x1 x2 x3 x4 x5 x6 x7 x8).bind q = K_AO f_AR f_AN  x0 x1 x2 x3 x4 x5 x6 x7 x8 q := by
  unfold f_AO
  exact m_AO q f_AR f_AN   x0 x1 x2 x3 x4 x5 x6 x7 x8 some
theorem s_AO [Amb] : Sound Try.prog 13 (F_AO f_AO) := (inl_sums (l := [(26, F_AR f_AR), (20, F_AN f_AN)]) (.cons s_AR (.cons s_AN (.nil _))) mixed (hs := ⟨[⟨2, [0, 3, 4, 5, 6, 7, 11, 12, 13, 14, 15, 16, 19, 20, 21, 22, 23, 24, 25, 26, 27, 28, 29, 30, 33, 34, 35, 36, 37, 17, 18], []⟩, ⟨8, [0, 3, 4, 5,
 6, 7, 8, 9, 10, 11, 12, 13, 14, 15, 16, 17, 18, 19, 20, 21, 25, 26, 27, 28, 29, 30, 33, 34, 35, 36, 37, 31, 32], []⟩], [], [], [], (some ⟨0, u0GN1, []⟩)⟩) (lf := 200) (Sums.by (l := [loopIn Try.prog 13 2,
 loopIn Try.prog 13 8]) (lj := []) (by kernel_rfl) ⟨SumOK.no (by kernel_rfl), ⟨SumOK.no (by kernel_rfl), trivial⟩⟩ (by kernel_rfl) trivial) (by kernel_rfl)).by (F := F_AO f_AO) fun args b r hr => by
  obtain ⟨x0, x1, x2, x3, x4, x5, x6, x7, x8, rfl, rfl, hr1⟩ := e_AO hr
  exact inl_eval ((d_AO f_AR f_AN  x0 x1 x2 x3 x4 x5 x6 x7 x8).trans ((n_AO (fun (d : Bool) => some (Res.mk (rB d) [] [])) x0 x1 x2 x3 x4 x5 x6 x7 x8).symm.trans hr1))

def K_AP {ρ : Type} (x0 : Int) (x1 : Int) (x2 : Int) (x3 : Bool) (k : (Int × Bool) → Option ρ) : Option ρ := bif decide (x1 > x2) then k (x1, true) else bif decide (x0 < x1) then k (x1, true) else bif decide (x0 > x2) then k (x2, true) else k (x0, x3)
def f_AP (x0 : Int) (x1 : Int) (x2 : Int) (x3 : Bool) : Option (Int × Bool) := K_AP   x0 x1 x2 x3 some
section
open Go.Ab.Rdr
def QA_AP := ((pair (cons (ar (rc (cptr (nat 0) (ok' (nat 0)) (nat 1)))) (cons (ar (rc (cf (fi .i64 hole)))) (cons (ar (rc (cf (fi .i64 hole)))) (cons (ar (rc (cf (fi .i64 hole)))) nil)))) (cons (cons (gc (cf (fb hole))) nil) nil)) : Rdr (List AV × List Blk) _)
end
def F_AP (f : (Int) → (Int) → (Int) → (Bool) → Option (Int × Bool)) : Sem1 := fun args h => match (QA_AP).rd (args, h) with
  | some b => .opt (f b.1.2.1 b.1.2.2.1 b.1.2.2.2.1 b.2.1.1) fun (d : Int × Bool) => .leaf (Res.mk (rI d.1) [Ch.set [sB d.2]] [])
  | none => .fail
theorem d_AP (x0 : Int) (x1 : Int) (x2 : Int) (x3 : Bool) : den Try.prog (envOf []) ⟨[], [], [0], [], none⟩ 200 37 [.r (.c (.ptr 0 (.k 0) 1)), rI x0, rI x1, rI x2] [[.c (.f (.b x3))]] = K_AP x0 x1 x2 x3 (fun (d : Int × Bool) => some (Res.mk (rI d.1) [Ch.set [sB d.2]] [])) := by kernel_rfl
theorem m_AP {ρ σ : Type} (q : ρ → Option σ)    (x0 : Int) (x1 : Int) (x2 : Int) (x3 : Bool) (k : (Int × Bool) → Option ρ) : (K_AP   x0 x1 x2 x3 k).bind q = K_AP   x0 x1 x2 x3 (fun d => (k d).bind q) := by
  simp only [K_AP, bnd_cond, bnd_bind, bnd_none, bnd_sum]
theorem qa_AP : ∀ b, (QA_AP).em b = ([.r (.c (.ptr 0 (.k 0) 1)), rI b.1.2.1, rI b.1.2.2.1, rI b.1.2.2.2.1], [[.c (.f (.b b.2.1.1))]]) := fun b => by kernel_rfl
theorem e_AP {f : (Int) → (Int) → (Int) → (Bool) → Option (Int × Bool)} {args : List AV} {h : List Blk} {r : Res} (hr : (F_AP f args h).eval = some r) : ∃ x0 x1 x2 x3, args = [.r (.c (.ptr 0 (.k 0) 1)), rI x0, rI x1, rI x2] ∧ h = [[.c (.f (.b x3))]] ∧ (f x0 x1 x2 x3).bind (fun (d : Int × Bool) => some (Res.mk (rI d.1) [Ch.set [sB d.2]] [])) = some r := by
  unfold F_AP at hr
  split at hr
  · rename_i b hb
    have e := ((QA_AP).ok _ _ hb).trans (qa_AP b)
    rw [opt_eval2] at hr
    exact ⟨b.1.2.1, b.1.2.2.1, b.1.2.2.2.1, b.2.1.1, (Prod.mk.inj e).1, (Prod.mk.inj e).2, hr⟩
  · cases hr
theorem n_AP {σ : Type} (q : (Int × Bool) → Option σ) (x0 : Int) (x1 : Int) (x2 : Int) (x3 : Bool) : (f_AP x0 x1 x2 x3).bind q = K_AP   x0 x1 x2 x3 q := by
  unfold f_AP
  exact m_AP q    x0 x1 x2 x3 some
theorem s_AP [Amb] : Sound Try.prog 37 (F_AP f_AP) := (inl_sound (l := []) (.nil _) mixed [] [0] 200 (by kernel_rfl)).by (F := F_AP f_AP) fun args b r hr => by
  obtain ⟨x0, x1, x2, x3, rfl, rfl, hr1⟩ := e_AP hr
  exact inl_eval ((d_AP   x0 x1 x2 x3).trans ((n_AP (fun (d : Int × Bool) => some (Res.mk (rI d.1) [Ch.set [sB d.2]] [])) x0 x1 x2 x3).symm.trans hr1))

def K_J {ρ : Type} (g_AP : t6GN1) (x0 : Int) (x1 : Bool) (k : (Int × Bool) → Option ρ) : Option ρ := Option.bind (g_AP x0 (-1152921504606846976) 1152921504606846976 x1) fun (d : Int × Bool) => k (d.1, d.2)
def f_J (x0 : Int) (x1 : Bool) : Option (Int × Bool) := K_J f_AP  x0 x1 some
section
open Go.Ab.Rdr
def QA_J := ((pair (cons (ar (rc (cptr (nat 0) (ok' (nat 0)) (nat 1)))) (cons (ar (rc (cf (fi .i64 hole)))) nil)) (cons (cons (gc (cf (fb hole))) nil) nil)) : Rdr (List AV × List Blk) _)
end
def F_J (f : (Int) → (Bool) → Option (Int × Bool)) : Sem1 := fun args h => match (QA_J).rd (args, h) with
  | some b => .opt (f b.1.2.1 b.2.1.1) fun (d : Int × Bool) => .leaf (Res.mk (rI d.1) [Ch.set [sB d.2]] [])
  | none => .fail
theorem d_J (g_AP : t6GN1) (x0 : Int) (x1 : Bool) : den Try.prog (envOf [(37, F_AP g_AP)]) ⟨[], [], [], [], none⟩ 200 52 [.r (.c (.ptr 0 (.k 0) 1)), rI x0] [[.c (.f (.b x1))]] = K_J g_AP x0 x1 (fun (d : Int × Bool) => some (Res.mk (rI d.1) [Ch.set [sB d.2]] [])) := by kernel_rfl
theorem m_J {ρ σ : Type} (q : ρ → Option σ) (g_AP : t6GN1)   (x0 : Int) (x1 : Bool) (k : (Int × Bool) → Option ρ) : (K_J g_AP  x0 x1 k).bind q = K_J g_AP  x0 x1 (fun d => (k d).bind q) := by
  simp only [K_J, bnd_cond, bnd_bind, bnd_none, bnd_sum]
theorem qa_J : ∀ b, (QA_J).em b = ([.r (.c (.ptr 0 (.k 0) 1)), rI b.1.2.1], [[.c (.f (.b b.2.1.1))]]) := fun b => by kernel_rfl
theorem e_J {f : (Int) → (Bool) → Option (Int × Bool)} {args : List AV} {h : List Blk} {r : Res} (hr : (F_J f args h).eval = some r) : ∃ x0 x1, args = [.r (.c (.ptr 0 (.k 0) 1)), rI x0] ∧ h = [[.c (.f (.b x1))]] ∧ (f x0 x1).bind (fun (d : Int × Bool) => some (Res.mk (rI d.1) [Ch.set [sB d.2]] [])) = some r := by
  unfold F_J at hr
  split at hr
  · rename_i b hb
    have e := ((QA_J).ok _ _ hb).trans (qa_J b)
    rw [opt_eval2] at hr
    exact ⟨b.1.2.1, b.2.1.1, (Prod.mk.inj e).1, (Prod.mk.inj e).2, hr⟩
  · cases hr
theorem n_J {σ : Type} (q : (Int × Bool) → Option σ) (x0 : Int) (x1 : Bool) : (f_J x0 x1).bind q = K_J f_AP  x0 x1 q := by
  unfold f_J
  exact m_J q f_AP   x0 x1 some
theorem s_J [Amb] : Sound Try.prog 52 (F_J f_J) := (inl_sound (l := [(37, F_AP f_AP)]) (.cons s_AP (.nil _)) mixed [] [] 200 (by kernel_rfl)).by (F := F_J f_J) fun args b r hr => by
  obtain ⟨x0, x1, rfl, rfl, hr1⟩ := e_J hr
  exact inl_eval ((d_J f_AP  x0 x1).trans ((n_J (fun (d : Int × Bool) => some (Res.mk (rI d.1) [Ch.set [sB d.2]] [])) x0 x1).symm.trans hr1))

def K_AS {ρ : Type} (x0 : Int) (k : (Int) → Option ρ) : Option ρ := bif decide (x0 < 0) then k (IntKind.wrap .u64 (0 - IntKind.wrap .u64 x0)) else k (IntKind.wrap .u64 x0)
def f_AS (x0 : Int) : Option (Int) := K_AS   x0 some
section
open Go.Ab.Rdr
def QA_AS := ((pair (cons (ar (rc (cf (fi .i64 hole)))) nil) nil) : Rdr (List AV × List Blk) _)
end
def F_AS (f : (Int) → Option (Int)) : Sem1 := fun args h => match (QA_AS).rd (args, h) with
  | some b => .opt (f b.1.1) fun (d : Int) => .leaf (Res.mk (rU d) [] [])
  | none => .fail
theorem d_AS (x0 : Int) : den Try.prog (envOf []) ⟨[], [], [], [], none⟩ 200 76 [rI x0] [] = K_AS x0 (fun (d : Int) => some (Res.mk (rU d) [] [])) := by kernel_rfl
theorem m_AS {ρ σ : Type} (q : ρ → Option σ)    (x0 : Int) (k : (Int) → Option ρ) : (K_AS   x0 k).bind q = K_AS   x0 (fun d => (k d).bind q) := by
  simp only [K_AS, bnd_cond, bnd_bind, bnd_none, bnd_sum]
theorem qa_AS : ∀ b, (QA_AS).em b = ([rI b.1.1], []) := fun b => by kernel_rfl
theorem e_AS {f : (Int) → Option (Int)} {args : List AV} {h : List Blk} {r : Res} (hr : (F_AS f args h).eval = some r) : ∃ x0, args = [rI x0] ∧ h = [] ∧ (f x0).bind (fun (d : Int) => some (Res.mk (rU d) [] [])) = some r := by
  unfold F_AS at hr
  split at hr
  · rename_i b hb
    have e := ((QA_AS).ok _ _ hb).trans (qa_AS b)
    rw [opt_eval2] at hr
    exact ⟨b.1.1, (Prod.mk.inj e).1, (Prod.mk.inj e).2, hr⟩
  · cases hr
theorem n_AS {σ : Type} (q : (Int) → Option σ) (x0 : Int) : (f_AS x0).bind q = K_AS   x0 q := by
  unfold f_AS
  exact m_AS q    x0 some
theorem s_AS [Amb] : Sound Try.prog 76 (F_AS f_AS) := (inl_sound (l := []) (.nil _) mixed [] [] 200 (by kernel_rfl)).by (F := F_AS f_AS) fun args b r hr => by
  obtain ⟨x0, rfl, rfl, hr1⟩ := e_AS hr
  exact inl_eval ((d_AS   x0).trans ((n_AS (fun (d : Int) => some (Res.mk (rU d) [] [])) x0).symm.trans hr1))

def K_Au {ρ : Type} (x0 : Int) (x1 : Int) (k : (Int × Int) → Option ρ) : Option ρ := k (IntKind.wrap .u64 (IntKind.wrap .u64 (IntKind.wrap .u64 (Int.fdiv x0 4294967296 * Int.fdiv x1 4294967296) + Int.fdiv (IntKind.wrap .u64 (IntKind.wrap .u64 (Int.fdiv x0 4294967296 * IntKind.wrap .u64 (Int.ofNat (BitVec.toNat (BitVec.ofInt 64 x1 &&& BitVec.ofInt 64 4294967295)))) + Int.fdiv (IntKind.wrap .u64 (IntKind.wrap .u64 (Int.ofNat (BitVec.toNat (BitVec.ofInt 64 x0 &&& BitVec.ofInt 64 4294967295))) * IntKind.wrap .u64 (Int.ofNat (BitVec.toNat (BitVec.ofInt 64 x1 &&& BitVec.ofInt 64 4294967295))))) 4294967296)) 4294967296) + Int.fdiv (IntKind.wrap .u64 (IntKind.wrap .u64 (Int.ofNat (BitVec.toNat (BitVec.ofInt 64 (IntKind.wrap .u64 (IntKind.wrap .u64 (Int.fdiv x0 4294967296 * IntKind.wrap .u64 (Int.ofNat (BitVec.toNat (BitVec.ofInt 64 x1 &&& BitVec.ofInt 64 4294967295)))) + Int.fdiv (IntKind.wrap .u64 (IntKind.wrap .u64 (Int.ofNat (BitVec.toNat (BitVec.ofInt 64 x0 &&& BitVec.ofInt 64 4294967295))) * IntKind.wrap .u64 (Int.ofNat (BitVec.toNat (BitVec.ofInt 64 x1 &&& BitVec.ofInt 64 4294967295))))) 4294967296)) &&& BitVec.ofInt 64 4294967295))) + IntKind.wrap .u64 (IntKind.wrap .u64 (Int.ofNat (BitVec.toNat (BitVec.ofInt 64 x0 &&& BitVec.ofInt 64 4294967295))) * Int.fdiv x1 4294967296))) 4294967296),
 IntKind.wrap .u64 (x0 * x1))
def f_Au (x0 : Int) (x1 : Int) : Option (Int × Int) := K_Au   x0 x1 some
section
open Go.Ab.Rdr
def QA_Au := ((pair (cons (ar (rc (cf (fi .u64 hole)))) (cons (ar (rc (cf (fi .u64 hole)))) nil)) nil) : Rdr (List AV × List Blk) _)
end
def F_Au (f : (Int) → (Int) → Option (Int × Int)) : Sem1 := fun args h => match (QA_Au).rd (args, h) with
  | some b => .opt (f b.1.1 b.1.2.1) fun (d : Int × Int) => .leaf (Res.mk (AV.tup [RV.c (CV.f (FV.i .u64 d.1)), RV.c (CV.f (FV.i .u64 d.2))]) [] [])
  | none => .fail
theorem d_Au (x0 : Int) (x1 : Int) : den Try.prog (envOf []) ⟨[], [], [], [], none⟩ 200 75 [rU x0, rU x1] [] = K_Au x0 x1 (fun (d : Int × Int) => some (Res.mk (AV.tup [RV.c (CV.f (FV.i .u64 d.1)), RV.c (CV.f (FV.i .u64 d.2))]) [] [])) := by kernel_rfl
theorem m_Au {ρ σ : Type} (q : ρ → Option σ)    (x0 : Int) (x1 : Int) (k : (Int × Int) → Option ρ) : (K_Au   x0 x1 k).bind q = K_Au   x0 x1 (fun d => (k d).bind q) := by
  simp only [K_Au, bnd_cond, bnd_bind, bnd_none, bnd_sum]
theorem qa_Au : ∀ b, (QA_Au).em b = ([rU b.1.1, rU b.1.2.1], []) := fun b => by kernel_rfl
theorem e_Au {f : (Int) → (Int) → Option (Int × Int)} {args : List AV} {h : List Blk} {r : Res} (hr : (F_Au f args h).eval = some r) : ∃ x0 x1, args = [rU x0, rU x1] ∧ h = [] ∧ (f x0 x1).bind (fun (d : Int × Int) => some (Res.mk (AV.tup [RV.c (CV.f (FV.i .u64 d.1)), RV.c (CV.f (FV.i .u64 d.2))]) [] [])) = some r := by
  unfold F_Au at hr
  split at hr
  · rename_i b hb
    have e := ((QA_Au).ok _ _ hb).trans (qa_Au b)
    rw [opt_eval2] at hr
    exact ⟨b.1.1, b.1.2.1, (Prod.mk.inj e).1, (Prod.mk.inj e).2, hr⟩
  · cases hr
theorem n_Au {σ : Type} (q : (Int × Int) → Option σ) (x0 : Int) (x1 : Int) : (f_Au x0 x1).bind q = K_Au   x0 x1 q := by
  unfold f_Au
  exact m_Au q    x0 x1 some
theorem s_Au [Amb] : Sound Try.prog 75 (F_Au f_Au) := (inl_sound (l := []) (.nil _) mixed [] [] 200 (by kernel_rfl)).by (F := F_Au f_Au) fun args b r hr => by
  obtain ⟨x0, x1, rfl, rfl, hr1⟩ := e_Au hr
  exact inl_eval ((d_Au   x0 x1).trans ((n_Au (fun (d : Int × Int) => some (Res.mk (AV.tup [RV.c (CV.f (FV.i .u64 d.1)), RV.c (CV.f (FV.i .u64 d.2))]) [] [])) x0 x1).symm.trans hr1))

def K_Aa {ρ : Type} (g_Add64 : C3) (x0 : Int) (x1 : Int) (x2 : Bool) (k : (Int × Int × Bool) → Option ρ) : Option ρ := bif !x2 then k (IntKind.wrap .i64 x0, x1, Int.fdiv x0 9223372036854775808 == 0) else Option.bind (g_Add64 (IntKind.wrap .u64 (Int.ofNat (BitVec.toNat (BitVec.ofInt 64 18446744073709551615 ^^^ BitVec.ofInt 64 x1)))) 1 0) fun (d : Int ×
 Int) => bif decide (IntKind.wrap .i64 (IntKind.wrap .u64 (IntKind.wrap .u64 (Int.ofNat (BitVec.toNat (BitVec.ofInt 64 18446744073709551615 ^^^ BitVec.ofInt 64 x0))) + d.2)) < 0) then k (IntKind.wrap .i64 (IntKind.wrap .u64 (IntKind.wrap .u64 (Int.ofNat (BitVec.toNat (BitVec.ofInt 64 18446744073709551615 ^^^ BitVec.ofInt 64 x0))) + d.2)),
 d.1, true) else k (IntKind.wrap .i64 (IntKind.wrap .u64 (IntKind.wrap .u64 (Int.ofNat (BitVec.toNat (BitVec.ofInt 64 18446744073709551615 ^^^ BitVec.ofInt 64 x0))) + d.2)), d.1, x0 == 0 && (x1 == 0 && true))
def f_Aa (x0 : Int) (x1 : Int) (x2 : Bool) : Option (Int × Int × Bool) := K_Aa f_Add64  x0 x1 x2 some
section
open Go.Ab.Rdr
def QA_Aa := ((pair (cons (ar (ra (cons (gc (cf (fi .u64 hole))) (cons (gc (cf (fi .u64 hole))) nil)))) (cons (ar (rc (cf (fb hole)))) nil)) nil) : Rdr (List AV × List Blk) _)
end
def F_Aa (f : (Int) → (Int) → (Bool) → Option (Int × Int × Bool)) : Sem1 := fun args h => match (QA_Aa).rd (args, h) with
  | some b => .opt (f b.1.1.1 b.1.1.2.1 b.1.2.1) fun (d : Int × Int × Bool) => .leaf (Res.mk (AV.tup [RV.agg [sI d.1, sU d.2.1], RV.c (CV.f (FV.b d.2.2))]) [] [])
  | none => .fail
theorem d_Aa (g_Add64 : C3) (x0 : Int) (x1 : Int) (x2 : Bool) : den Try.prog (envOf [(91, F_carry g_Add64)]) ⟨[], [], [], [], none⟩ 200 77 [.r (.agg [.c (.f (.i .u64 x0)), .c (.f (.i .u64 x1))]), rB x2] [] = K_Aa g_Add64 x0 x1 x2 (fun (d : Int × Int × Bool) => some (Res.mk (AV.tup [RV.agg [sI d.1,
 sU d.2.1], RV.c (CV.f (FV.b d.2.2))]) [] [])) := by kernel_rfl
theorem m_Aa {ρ σ : Type} (q : ρ → Option σ) (g_Add64 : C3)   (x0 : Int) (x1 : Int) (x2 : Bool) (k : (Int × Int × Bool) → Option ρ) : (K_Aa g_Add64  x0 x1 x2 k).bind q = K_Aa g_Add64  x0 x1 x2 (fun d => (k d).bind q) := by
  simp only [K_Aa, bnd_cond, bnd_bind, bnd_none, bnd_sum]
theorem qa_Aa : ∀ b, (QA_Aa).em b = ([.r (.agg [.c (.f (.i .u64 b.1.1.1)), .c (.f (.i .u64 b.1.1.2.1))]), rB b.1.2.1], []) := fun b => by kernel_rfl
theorem e_Aa {f : (Int) → (Int) → (Bool) → Option (Int × Int × Bool)} {args : List AV} {h : List Blk} {r : Res} (hr : (F_Aa f args h).eval = some r) : ∃ x0 x1 x2, args = [.r (.agg [.c (.f (.i .u64 x0)), .c (.f (.i .u64 x1))]), rB x2] ∧ h = [] ∧ (f x0 x1 x2).bind (fun (d : Int × Int × Bool) => some (Res.mk (AV.tup [RV.agg [sI d.1, sU d.2.1], RV.c (CV.f (FV.b d.2.2))]) [] [])) = some r := by
  unfold F_Aa at hr
  split at hr
  · rename_i b hb
    have e := ((QA_Aa).ok _ _ hb).trans (qa_Aa b)
    rw [opt_eval2] at hr
    exact ⟨b.1.1.1, b.1.1.2.1, b.1.2.1, (Prod.mk.inj e).1, (Prod.mk.inj e).2, hr⟩
  · cases hr
theorem n_Aa {σ : Type} (q : (Int × Int × Bool) → Option σ) (x0 : Int) (x1 : Int) (x2 : Bool) : (f_Aa x0 x1 x2).bind q = K_Aa f_Add64  x0 x1 x2 q := by
  unfold f_Aa
  exact m_Aa q f_Add64   x0 x1 x2 some
theorem s_Aa [Amb] : Sound Try.prog 77 (F_Aa f_Aa) := (inl_sound (l := [(91, F_carry f_Add64)]) (.cons s_Add64 (.nil _)) mixed [] [] 200 (by kernel_rfl)).by (F := F_Aa f_Aa) fun args b r hr => by
  obtain ⟨x0, x1, x2, rfl, rfl, hr1⟩ := e_Aa hr
  exact inl_eval ((d_Aa f_Add64  x0 x1 x2).trans ((n_Aa (fun (d : Int × Int × Bool) => some (Res.mk (AV.tup [RV.agg [sI d.1, sU d.2.1], RV.c (CV.f (FV.b d.2.2))]) [] [])) x0 x1 x2).symm.trans hr1))

def K_Ag {ρ : Type} (g_AS : t7GN1) (g_Au : t8GN1) (g_Aa : t9GN1) (x0 : Int) (x1 : Int) (k : (Int × Int) → Option ρ) : Option ρ := Option.bind (g_AS x0) fun (d : Int) => Option.bind (g_AS x1) fun (d_1 : Int) => Option.bind (g_Au d d_1) fun (d : Int ×
 Int) => Option.bind (g_Aa d.1 d.2 !decide (x0 < 0) == decide (x1 < 0)) fun (d : Int × Int × Bool) => k (d.1, d.2.1)
def f_Ag (x0 : Int) (x1 : Int) : Option (Int × Int) := K_Ag f_AS f_Au f_Aa  x0 x1 some
section
open Go.Ab.Rdr
def QA_Ag := ((pair (cons (ar (rc (cf (fi .i64 hole)))) (cons (ar (rc (cf (fi .i64 hole)))) nil)) nil) : Rdr (List AV × List Blk) _)
end
def F_Ag (f : (Int) → (Int) → Option (Int × Int)) : Sem1 := fun args h => match (QA_Ag).rd (args, h) with
  | some b => .opt (f b.1.1 b.1.2.1) fun (d : Int × Int) => .leaf (Res.mk (AV.r (RV.agg [sI d.1, sU d.2])) [] [])
  | none => .fail
theorem d_Ag (g_AS : t7GN1) (g_Au : t8GN1) (g_Aa : t9GN1) (x0 : Int) (x1 : Int) : den Try.prog (envOf [(76, F_AS g_AS), (75, F_Au g_Au), (77, F_Aa g_Aa)]) ⟨[], [], [], [], none⟩ 200 51 [rI x0, rI x1] [] = K_Ag g_AS g_Au g_Aa x0 x1 (fun (d : Int ×
 Int) => some (Res.mk (AV.r (RV.agg [sI d.1, sU d.2])) [] [])) := by kernel_rfl
theorem m_Ag {ρ σ : Type} (q : ρ → Option σ) (g_AS : t7GN1) (g_Au : t8GN1) (g_Aa : t9GN1)   (x0 : Int) (x1 : Int) (k : (Int × Int) → Option ρ) : (K_Ag g_AS g_Au g_Aa  x0 x1 k).bind q = K_Ag g_AS g_Au g_Aa  x0 x1 (fun d => (k d).bind q) := by
  simp only [K_Ag, bnd_cond, bnd_bind, bnd_none, bnd_sum]
theorem qa_Ag : ∀ b, (QA_Ag).em b = ([rI b.1.1, rI b.1.2.1], []) := fun b => by kernel_rfl
theorem e_Ag {f : (Int) → (Int) → Option (Int × Int)} {args : List AV} {h : List Blk} {r : Res} (hr : (F_Ag f args h).eval = some r) : ∃ x0 x1, args = [rI x0, rI x1] ∧ h = [] ∧ (f x0 x1).bind (fun (d : Int × Int) => some (Res.mk (AV.r (RV.agg [sI d.1, sU d.2])) [] [])) = some r := by
  unfold F_Ag at hr
  split at hr
  · rename_i b hb
    have e := ((QA_Ag).ok _ _ hb).trans (qa_Ag b)
    rw [opt_eval2] at hr
    exact ⟨b.1.1, b.1.2.1, (Prod.mk.inj e).1, (Prod.mk.inj e).2, hr⟩
  · cases hr
theorem n_Ag {σ : Type} (q : (Int × Int) → Option σ) (x0 : Int) (x1 : Int) : (f_Ag x0 x1).bind q = K_Ag f_AS f_Au f_Aa  x0 x1 q := by
  unfold f_Ag
  exact m_Ag q f_AS f_Au f_Aa   x0 x1 some
theorem s_Ag [Amb] : Sound Try.prog 51 (F_Ag f_Ag) := (inl_sound (l := [(76, F_AS f_AS), (75, F_Au f_Au), (77, F_Aa f_Aa)]) (.cons s_AS (.cons s_Au (.cons s_Aa (.nil _)))) mixed [] [] 200 (by kernel_rfl)).by (F := F_Ag f_Ag) fun args b r hr => by
  obtain ⟨x0, x1, rfl, rfl, hr1⟩ := e_Ag hr
  exact inl_eval ((d_Ag f_AS f_Au f_Aa  x0 x1).trans ((n_Ag (fun (d : Int × Int) => some (Res.mk (AV.r (RV.agg [sI d.1, sU d.2])) [] [])) x0 x1).symm.trans hr1))

def K_An {ρ : Type} (x0 : Bool) (k : (Int) → Option ρ) : Option ρ := bif x0 then k (-1152921504606846976) else k 1152921504606846976
def f_An (x0 : Bool) : Option (Int) := K_An   x0 some
section
open Go.Ab.Rdr
def QA_An := ((pair (cons (ar (rc (cf (fb hole)))) nil) nil) : Rdr (List AV × List Blk) _)
end
def F_An (f : (Bool) → Option (Int)) : Sem1 := fun args h => match (QA_An).rd (args, h) with
  | some b => .opt (f b.1.1) fun (d : Int) => .leaf (Res.mk (rI d) [] [])
  | none => .fail
theorem d_An (x0 : Bool) : den Try.prog (envOf []) ⟨[], [], [], [], none⟩ 200 73 [rB x0] [] = K_An x0 (fun (d : Int) => some (Res.mk (rI d) [] [])) := by kernel_rfl
theorem m_An {ρ σ : Type} (q : ρ → Option σ)    (x0 : Bool) (k : (Int) → Option ρ) : (K_An   x0 k).bind q = K_An   x0 (fun d => (k d).bind q) := by
  simp only [K_An, bnd_cond, bnd_bind, bnd_none, bnd_sum]
theorem qa_An : ∀ b, (QA_An).em b = ([rB b.1.1], []) := fun b => by kernel_rfl
theorem e_An {f : (Bool) → Option (Int)} {args : List AV} {h : List Blk} {r : Res} (hr : (F_An f args h).eval = some r) : ∃ x0, args = [rB x0] ∧ h = [] ∧ (f x0).bind (fun (d : Int) => some (Res.mk (rI d) [] [])) = some r := by
  unfold F_An at hr
  split at hr
  · rename_i b hb
    have e := ((QA_An).ok _ _ hb).trans (qa_An b)
    rw [opt_eval2] at hr
    exact ⟨b.1.1, (Prod.mk.inj e).1, (Prod.mk.inj e).2, hr⟩
  · cases hr
theorem n_An {σ : Type} (q : (Int) → Option σ) (x0 : Bool) : (f_An x0).bind q = K_An   x0 q := by
  unfold f_An
  exact m_An q    x0 some
theorem s_An [Amb] : Sound Try.prog 73 (F_An f_An) := (inl_sound (l := []) (.nil _) mixed [] [] 200 (by kernel_rfl)).by (F := F_An f_An) fun args b r hr => by
  obtain ⟨x0, rfl, rfl, hr1⟩ := e_An hr
  exact inl_eval ((d_An   x0).trans ((n_An (fun (d : Int) => some (Res.mk (rI d) [] [])) x0).symm.trans hr1))

def K_Ah {ρ : Type} (g_Add64 : C3) (x0 : Int) (x1 : Int) (k : (Int × Int × Bool) → Option ρ) : Option ρ := bif decide (x0 ≥ 0) then k (IntKind.wrap .u64 x0, x1, false) else Option.bind (g_Add64 (IntKind.wrap .u64 (Int.ofNat (BitVec.toNat (BitVec.ofInt 64 18446744073709551615 ^^^ BitVec.ofInt 64 x1)))) 1 0) fun (d : Int ×
 Int) => k (IntKind.wrap .u64 (IntKind.wrap .u64 (Int.ofNat (BitVec.toNat (BitVec.ofInt 64 18446744073709551615 ^^^ BitVec.ofInt 64 (IntKind.wrap .u64 x0)))) + d.2), d.1, true)
def f_Ah (x0 : Int) (x1 : Int) : Option (Int × Int × Bool) := K_Ah f_Add64  x0 x1 some
section
open Go.Ab.Rdr
def QA_Ah := ((pair (cons (ar (ra (cons (gc (cf (fi .i64 hole))) (cons (gc (cf (fi .u64 hole))) nil)))) nil) nil) : Rdr (List AV × List Blk) _)
end
def F_Ah (f : (Int) → (Int) → Option (Int × Int × Bool)) : Sem1 := fun args h => match (QA_Ah).rd (args, h) with
  | some b => .opt (f b.1.1.1 b.1.1.2.1) fun (d : Int × Int × Bool) => .leaf (Res.mk (AV.tup [RV.agg [sU d.1, sU d.2.1], RV.c (CV.f (FV.b d.2.2))]) [] [])
  | none => .fail
theorem d_Ah (g_Add64 : C3) (x0 : Int) (x1 : Int) : den Try.prog (envOf [(91, F_carry g_Add64)]) ⟨[], [], [], [], none⟩ 200 82 [.r (.agg [.c (.f (.i .i64 x0)), .c (.f (.i .u64 x1))])] [] = K_Ah g_Add64 x0 x1 (fun (d : Int × Int × Bool) => some (Res.mk (AV.tup [RV.agg [sU d.1,
 sU d.2.1], RV.c (CV.f (FV.b d.2.2))]) [] [])) := by kernel_rfl
theorem m_Ah {ρ σ : Type} (q : ρ → Option σ) (g_Add64 : C3)   (x0 : Int) (x1 : Int) (k : (Int × Int × Bool) → Option ρ) : (K_Ah g_Add64  x0 x1 k).bind q = K_Ah g_Add64  x0 x1 (fun d => (k d).bind q) := by
  simp only [K_Ah, bnd_cond, bnd_bind, bnd_none, bnd_sum]
theorem qa_Ah : ∀ b, (QA_Ah).em b = ([.r (.agg [.c (.f (.i .i64 b.1.1.1)), .c (.f (.i .u64 b.1.1.2.1))])], []) := fun b => by kernel_rfl
theorem e_Ah {f : (Int) → (Int) → Option (Int × Int × Bool)} {args : List AV} {h : List Blk} {r : Res} (hr : (F_Ah f args h).eval = some r) : ∃ x0 x1, args = [.r (.agg [.c (.f (.i .i64 x0)), .c (.f (.i .u64 x1))])] ∧ h = [] ∧ (f x0 x1).bind (fun (d : Int × Int × Bool) => some (Res.mk (AV.tup [RV.agg [sU d.1, sU d.2.1], RV.c (CV.f (FV.b d.2.2))]) [] [])) = some r := by
  unfold F_Ah at hr
  split at hr
  · rename_i b hb
    have e := ((QA_Ah).ok _ _ hb).trans (qa_Ah b)
    rw [opt_eval2] at hr
    exact ⟨b.1.1.1, b.1.1.2.1, (Prod.mk.inj e).1, (Prod.mk.inj e).2, hr⟩
  · cases hr
theorem n_Ah {σ : Type} (q : (Int × Int × Bool) → Option σ) (x0 : Int) (x1 : Int) : (f_Ah x0 x1).bind q = K_Ah f_Add64  x0 x1 q := by
  unfold f_Ah
  exact m_Ah q f_Add64   x0 x1 some
theorem s_Ah [Amb] : Sound Try.prog 82 (F_Ah f_Ah) := (inl_sound (l := [(91, F_carry f_Add64)]) (.cons s_Add64 (.nil _)) mixed [] [] 200 (by kernel_rfl)).by (F := F_Ah f_Ah) fun args b r hr => by
  obtain ⟨x0, x1, rfl, rfl, hr1⟩ := e_Ah hr
  exact inl_eval ((d_Ah f_Add64  x0 x1).trans ((n_Ah (fun (d : Int × Int × Bool) => some (Res.mk (AV.tup [RV.agg [sU d.1, sU d.2.1], RV.c (CV.f (FV.b d.2.2))]) [] [])) x0 x1).symm.trans hr1))

def S_I_2 {ρ : Type} (x0 : Int) (x1 : Int) (c : (Int × Int) → Option ρ) (x : (Int) → Option ρ) : Option ρ := bif inR (IntKind.wrap .u8 x0) 256 then x (IntKind.wrap .i64 (x1 + IntKind.wrap .i64 (byteAt (ByteArray.mk (List.toArray (List.append (List.append [0, 1, 2, 2, 3, 3, 3, 3,
 4, 4, 4, 4, 4, 4, 4, 4, 5, 5, 5, 5, 5, 5, 5, 5, 5, 5, 5, 5, 5, 5, 5, 5, 6, 6, 6, 6, 6, 6, 6, 6, 6, 6, 6, 6, 6, 6, 6, 6, 6, 6, 6, 6, 6, 6, 6, 6, 6, 6, 6, 6, 6, 6, 6, 6] [7, 7, 7, 7, 7, 7, 7, 7, 7, 7, 7, 7, 7, 7, 7, 7, 7, 7, 7, 7, 7, 7, 7, 7, 7, 7, 7, 7, 7, 7, 7, 7, 7, 7, 7, 7, 7, 7, 7, 7, 7, 7, 7, 7,
 7, 7, 7, 7, 7, 7, 7, 7, 7, 7, 7, 7, 7, 7, 7, 7, 7, 7, 7, 7]) (List.append [8, 8, 8, 8, 8, 8, 8, 8, 8, 8, 8, 8, 8, 8, 8, 8, 8, 8, 8, 8, 8, 8, 8, 8, 8, 8, 8, 8, 8, 8, 8, 8, 8, 8, 8, 8, 8, 8, 8, 8, 8, 8, 8, 8, 8, 8, 8, 8, 8, 8, 8, 8, 8, 8, 8, 8, 8, 8, 8, 8, 8, 8, 8, 8] [8, 8, 8, 8, 8, 8, 8, 8, 8, 8, 8,
 8, 8, 8, 8, 8, 8, 8, 8, 8, 8, 8, 8, 8, 8, 8, 8, 8, 8, 8, 8, 8, 8, 8, 8, 8, 8, 8, 8, 8, 8, 8, 8, 8, 8, 8, 8, 8, 8, 8, 8, 8, 8, 8, 8, 8, 8, 8, 8, 8, 8, 8, 8, 8])))) (Int.toNat (IntKind.wrap .u8 x0))))) else none
section
open Go.Ab.Rdr
def Q_I_2 := (st (cons (ar (rc (cf (fi .u64 hole)))) (cons aund (cons (ar (rc (cf (fi .i64 hole)))) (cons aund (cons aund (cons aund (cons aund (cons aund (cons aund (cons aund (cons aund (cons aund (cons aund (cons aund (cons aund (cons aund (cons aund (cons aund (cons aund (cons aund (cons aund (cons aund (cons aund (cons aund (cons aund nil))))))))))))))))))))))))) nil nil)
end
theorem q_I_2 : ∀ b, (Q_I_2).em b = St.mk [rU b.1.1, un, rI b.1.2.2.1, un, un, un, un, un, un, un, un, un, un, un, un, un, un, un, un, un, un, un, un,
 un, un] [] [] := fun b => by kernel_rfl
def R_I_2 (l : ∀ {ρ : Type}, (Int × Int) → ((Int) → Option ρ) → Option ρ) {ρ : Type} (s : St) (K : AX → St → Option ρ) : Option ρ := ((Q_I_2).rd s).bind fun b => l (b.1.1, b.1.2.2.1) (fun d => K (AX.ret) (St.mk [un, un, rI d, un, un, un, un,
 un, un, un, un, un, un, un, un, un, un, un, un, un, un, un, un, un, un] [] []))
theorem ms_I_2 {ρ σ : Type}    (q : ρ → Option σ) (x0 : Int) (x1 : Int) (c : (Int × Int) → Option ρ) (x : (Int) → Option ρ) : (S_I_2   x0 x1 c x).bind q = S_I_2   x0 x1 (fun d => (c d).bind q) (fun d => (x d).bind q) := by
  simp only [S_I_2, bnd_cond, bnd_bind, bnd_none, bnd_sum]
def L_I_2 {ρ : Type} (d : Int × Int) (k : (Int) → Option ρ) : Option ρ := S_I_2   d.1 d.2 (fun _ => none) k
theorem mL_I_2 {ρ σ : Type} (q : ρ → Option σ) (d : Int × Int) (k : (Int) → Option ρ) : (L_I_2 d k).bind q = L_I_2 d fun x => (k x).bind q := ms_I_2 q d.1 d.2 (fun _ => none) k
def S_I_1 {ρ : Type} (l_2 : ∀ {ρ : Type}, (Int × Int) → ((Int) → Option ρ) → Option ρ) (x0 : Int) (x1 : Int) (c : (Int × Int) → Option ρ) (x : (Int) → Option ρ) : Option ρ := bif decide (x0 ≥ 256) then l_2 (Int.fdiv x0 256, IntKind.wrap .i64 (x1 + 8)) fun (d : Int) => x d else l_2 (x0, x1) fun (d : Int) => x d
section
open Go.Ab.Rdr
def Q_I_1 := (st (cons (ar (rc (cf (fi .u64 hole)))) (cons aund (cons (ar (rc (cf (fi .i64 hole)))) (cons aund (cons aund (cons aund (cons aund (cons aund (cons aund (cons aund (cons aund (cons aund (cons aund (cons aund (cons aund (cons aund (cons aund (cons aund (cons aund (cons aund (cons aund (cons aund (cons aund (cons aund (cons aund nil))))))))))))))))))))))))) nil nil)
end
theorem q_I_1 : ∀ b, (Q_I_1).em b = St.mk [rU b.1.1, un, rI b.1.2.2.1, un, un, un, un, un, un, un, un, un, un, un, un, un, un, un, un, un, un, un, un,
 un, un] [] [] := fun b => by kernel_rfl
def R_I_1 (l : ∀ {ρ : Type}, (Int × Int) → ((Int) → Option ρ) → Option ρ) {ρ : Type} (s : St) (K : AX → St → Option ρ) : Option ρ := ((Q_I_1).rd s).bind fun b => l (b.1.1, b.1.2.2.1) (fun d => K (AX.ret) (St.mk [un, un, rI d, un, un, un, un,
 un, un, un, un, un, un, un, un, un, un, un, un, un, un, un, un, un, un] [] []))
theorem ms_I_1 {ρ σ : Type}  (l_2 : ∀ {ρ : Type}, (Int × Int) → ((Int) → Option ρ) → Option ρ) (hl_2 : ∀ {ρ σ : Type} (q : ρ → Option σ) (d : Int × Int) (k : (Int) → Option ρ), (l_2 d k).bind q = l_2 d fun x => (k x).bind q) (q : ρ → Option σ) (x0 : Int) (x1 : Int) (c : (Int × Int) → Option ρ) (x : (Int) → Option ρ) : (S_I_1  (@l_2) x0 x1 c x).bind q = S_I_1  (@l_2) x0 x1 (fun d => (c d).bind q) (fun d => (x d).bind q) := by
  simp only [S_I_1, bnd_cond, bnd_bind, bnd_none, bnd_sum, hl_2]
def L_I_1 {ρ : Type} (d : Int × Int) (k : (Int) → Option ρ) : Option ρ := S_I_1  (@L_I_2) d.1 d.2 (fun _ => none) k
theorem mL_I_1 {ρ σ : Type} (q : ρ → Option σ) (d : Int × Int) (k : (Int) → Option ρ) : (L_I_1 d k).bind q = L_I_1 d fun x => (k x).bind q := ms_I_1 (@L_I_2) (fun q d k => mL_I_2 q d k) q d.1 d.2 (fun _ => none) k
def S_I_0 {ρ : Type} (l_1 : ∀ {ρ : Type}, (Int × Int) → ((Int) → Option ρ) → Option ρ) (x0 : Int) (x1 : Int) (c : (Int × Int) → Option ρ) (x : (Int) → Option ρ) : Option ρ := bif decide (x0 ≥ 65536) then l_1 (Int.fdiv x0 65536, IntKind.wrap .i64 (x1 + 16)) fun (d : Int) => x d else l_1 (x0, x1) fun (d : Int) => x d
section
open Go.Ab.Rdr
def Q_I_0 := (st (cons (ar (rc (cf (fi .u64 hole)))) (cons aund (cons (ar (rc (cf (fi .i64 hole)))) (cons aund (cons aund (cons aund (cons aund (cons aund (cons aund (cons aund (cons aund (cons aund (cons aund (cons aund (cons aund (cons aund (cons aund (cons aund (cons aund (cons aund (cons aund (cons aund (cons aund (cons aund (cons aund nil))))))))))))))))))))))))) nil nil)
end
theorem q_I_0 : ∀ b, (Q_I_0).em b = St.mk [rU b.1.1, un, rI b.1.2.2.1, un, un, un, un, un, un, un, un, un, un, un, un, un, un, un, un, un, un, un, un,
 un, un] [] [] := fun b => by kernel_rfl
def R_I_0 (l : ∀ {ρ : Type}, (Int × Int) → ((Int) → Option ρ) → Option ρ) {ρ : Type} (s : St) (K : AX → St → Option ρ) : Option ρ := ((Q_I_0).rd s).bind fun b => l (b.1.1, b.1.2.2.1) (fun d => K (AX.ret) (St.mk [un, un, rI d, un, un, un, un,
 un, un, un, un, un, un, un, un, un, un, un, un, un, un, un, un, un, un] [] []))
theorem ms_I_0 {ρ σ : Type}  (l_1 : ∀ {ρ : Type}, (Int × Int) → ((Int) → Option ρ) → Option ρ) (hl_1 : ∀ {ρ σ : Type} (q : ρ → Option σ) (d : Int × Int) (k : (Int) → Option ρ), (l_1 d k).bind q = l_1 d fun x => (k x).bind q) (q : ρ → Option σ) (x0 : Int) (x1 : Int) (c : (Int × Int) → Option ρ) (x : (Int) → Option ρ) : (S_I_0  (@l_1) x0 x1 c x).bind q = S_I_0  (@l_1) x0 x1 (fun d => (c d).bind q) (fun d => (x d).bind q) := by
  simp only [S_I_0, bnd_cond, bnd_bind, bnd_none, bnd_sum, hl_1]
def L_I_0 {ρ : Type} (d : Int × Int) (k : (Int) → Option ρ) : Option ρ := S_I_0  (@L_I_1) d.1 d.2 (fun _ => none) k
theorem mL_I_0 {ρ σ : Type} (q : ρ → Option σ) (d : Int × Int) (k : (Int) → Option ρ) : (L_I_0 d k).bind q = L_I_0 d fun x => (k x).bind q := ms_I_0 (@L_I_1) (fun q d k => mL_I_1 q d k) q d.1 d.2 (fun _ => none) k
theorem ds_I_2 {ρ : Type} (l_2 : ∀ {ρ : Type}, (Int × Int) → ((Int) → Option ρ) → Option ρ) (l_1 : ∀ {ρ : Type}, (Int × Int) → ((Int) → Option ρ) → Option ρ) (l_0 : ∀ {ρ : Type}, (Int × Int) → ((Int) → Option ρ) → Option ρ) (x0 : Int) (x1 : Int) (K : AX → St → Option ρ) : runC Try.prog (envOf []) ⟨[],
 [], [], [⟨⟨4, u1GN1, []⟩, ⟨4, 0, @R_I_0 (@l_0)⟩⟩, ⟨⟨7, u1GN1, []⟩, ⟨7, 0, @R_I_1 (@l_1)⟩⟩, ⟨⟨10, u1GN1, []⟩, ⟨10, 0, @R_I_2 (@l_2)⟩⟩], (some ⟨0, u2GN1, []⟩)⟩ (tmpsOf Try.prog 96) 0 200 (joinIn Try.prog 96 10) (St.mk [rU x0, un, rI x1,
 un, un, un, un, un, un, un, un, un, un, un, un, un, un, un, un, un, un, un, un, un, un] [] []) K = S_I_2 x0 x1 (fun _ => none) (fun d => K (AX.ret) (St.mk [un, un, rI d,
 un, un, un, un, un, un, un, un, un, un, un, un, un, un, un, un, un, un, un, un, un, un] [] [])) := by kernel_rfl
theorem so_I_2 [Amb] : ∀ kk, JnOK Try.prog (envOf []) ⟨[], [], [], [⟨⟨4, u1GN1, []⟩, ⟨4, 0, @R_I_0 (@L_I_0)⟩⟩, ⟨⟨7, u1GN1, []⟩, ⟨7, 0, @R_I_1 (@L_I_1)⟩⟩,
 ⟨⟨10, u1GN1, []⟩, ⟨10, 0, @R_I_2 (@L_I_2)⟩⟩], (some ⟨0, u2GN1, []⟩)⟩ (tmpsOf Try.prog 96) kk 200 (joinIn Try.prog 96 10) := JnOK.of (id := 10) (k0 := 0) (hd := ⟨10,
 u1GN1, []⟩) (run := @R_I_2 (@L_I_2)) (by kernel_rfl) fun s K r hr => by
    unfold R_I_2 at hr
    obtain ⟨b, hb, hr1⟩ := Option.bind_eq_some_iff.1 hr
    have e := ((Q_I_2).ok s b hb).trans (q_I_2 b)
    subst e
    exact (ds_I_2  (@L_I_2) (@L_I_1) (@L_I_0) b.1.1 b.1.2.2.1 K).trans hr1
theorem ds_I_1 {ρ : Type} (l_2 : ∀ {ρ : Type}, (Int × Int) → ((Int) → Option ρ) → Option ρ) (l_1 : ∀ {ρ : Type}, (Int × Int) → ((Int) → Option ρ) → Option ρ) (l_0 : ∀ {ρ : Type}, (Int × Int) → ((Int) → Option ρ) → Option ρ) (x0 : Int) (x1 : Int) (K : AX → St → Option ρ) : runC Try.prog (envOf []) ⟨[],
 [], [], [⟨⟨4, u1GN1, []⟩, ⟨4, 0, @R_I_0 (@l_0)⟩⟩, ⟨⟨7, u1GN1, []⟩, ⟨7, 0, @R_I_1 (@l_1)⟩⟩, ⟨⟨10, u1GN1, []⟩, ⟨10, 0, @R_I_2 (@l_2)⟩⟩], (some ⟨0, u2GN1, []⟩)⟩ (tmpsOf Try.prog 96) 0 200 (joinIn Try.prog 96 7) (St.mk [rU x0, un, rI x1,
 un, un, un, un, un, un, un, un, un, un, un, un, un, un, un, un, un, un, un, un, un, un] [] []) K = S_I_1 (@l_2) x0 x1 (fun _ => none) (fun d => K (AX.ret) (St.mk [un, un, rI d,
 un, un, un, un, un, un, un, un, un, un, un, un, un, un, un, un, un, un, un, un, un, un] [] [])) := by kernel_rfl
theorem so_I_1 [Amb] : ∀ kk, JnOK Try.prog (envOf []) ⟨[], [], [], [⟨⟨4, u1GN1, []⟩, ⟨4, 0, @R_I_0 (@L_I_0)⟩⟩, ⟨⟨7, u1GN1, []⟩, ⟨7, 0, @R_I_1 (@L_I_1)⟩⟩,
 ⟨⟨10, u1GN1, []⟩, ⟨10, 0, @R_I_2 (@L_I_2)⟩⟩], (some ⟨0, u2GN1, []⟩)⟩ (tmpsOf Try.prog 96) kk 200 (joinIn Try.prog 96 7) := JnOK.of (id := 7) (k0 := 0) (hd := ⟨7,
 u1GN1, []⟩) (run := @R_I_1 (@L_I_1)) (by kernel_rfl) fun s K r hr => by
    unfold R_I_1 at hr
    obtain ⟨b, hb, hr1⟩ := Option.bind_eq_some_iff.1 hr
    have e := ((Q_I_1).ok s b hb).trans (q_I_1 b)
    subst e
    exact (ds_I_1  (@L_I_2) (@L_I_1) (@L_I_0) b.1.1 b.1.2.2.1 K).trans hr1
theorem ds_I_0 {ρ : Type} (l_2 : ∀ {ρ : Type}, (Int × Int) → ((Int) → Option ρ) → Option ρ) (l_1 : ∀ {ρ : Type}, (Int × Int) → ((Int) → Option ρ) → Option ρ) (l_0 : ∀ {ρ : Type}, (Int × Int) → ((Int) → Option ρ) → Option ρ) (x0 : Int) (x1 : Int) (K : AX → St → Option ρ) : runC Try.prog (envOf []) ⟨[],
 [], [], [⟨⟨4, u1GN1, []⟩, ⟨4, 0, @R_I_0 (@l_0)⟩⟩, ⟨⟨7, u1GN1, []⟩, ⟨7, 0, @R_I_1 (@l_1)⟩⟩, ⟨⟨10, u1GN1, []⟩, ⟨10, 0, @R_I_2 (@l_2)⟩⟩], (some ⟨0, u2GN1, []⟩)⟩ (tmpsOf Try.prog 96) 0 200 (joinIn Try.prog 96 4) (St.mk [rU x0, un, rI x1,
 un, un, un, un, un, un, un, un, un, un, un, un, un, un, un, un, un, un, un, un, un, un] [] []) K = S_I_0 (@l_1) x0 x1 (fun _ => none) (fun d => K (AX.ret) (St.mk [un, un, rI d,
 un, un, un, un, un, un, un, un, un, un, un, un, un, un, un, un, un, un, un, un, un, un] [] [])) := by kernel_rfl
theorem so_I_0 [Amb] : ∀ kk, JnOK Try.prog (envOf []) ⟨[], [], [], [⟨⟨4, u1GN1, []⟩, ⟨4, 0, @R_I_0 (@L_I_0)⟩⟩, ⟨⟨7, u1GN1, []⟩, ⟨7, 0, @R_I_1 (@L_I_1)⟩⟩,
 ⟨⟨10, u1GN1, []⟩, ⟨10, 0, @R_I_2 (@L_I_2)⟩⟩], (some ⟨0, u2GN1, []⟩)⟩ (tmpsOf Try.prog 96) kk 200 (joinIn Try.prog 96 4) := JnOK.of (id := 4) (k0 := 0) (hd := ⟨4,
 u1GN1, []⟩) (run := @R_I_0 (@L_I_0)) (by kernel_rfl) fun s K r hr => by
    unfold R_I_0 at hr
    obtain ⟨b, hb, hr1⟩ := Option.bind_eq_some_iff.1 hr
    have e := ((Q_I_0).ok s b hb).trans (q_I_0 b)
    subst e
    exact (ds_I_0  (@L_I_2) (@L_I_1) (@L_I_0) b.1.1 b.1.2.2.1 K).trans hr1
def K_I {ρ : Type} (l_2 : ∀ {ρ : Type}, (Int × Int) → ((Int) → Option ρ) → Option ρ) (l_1 : ∀ {ρ : Type}, (Int × Int) → ((Int) → Option ρ) → Option ρ) (l_0 : ∀ {ρ : Type}, (Int × Int) → ((Int) → Option ρ) → Option ρ) (x0 : Int) (k : (Int) → Option ρ) : Option ρ := bif decide (x0 ≥ 4294967296) then l_0 (Int.fdiv x0 4294967296,
 32) fun (d : Int) => k d else l_0 (x0, 0) fun (d : Int) => k d
def f_I (x0 : Int) : Option (Int) := K_I  (@L_I_2) (@L_I_1) (@L_I_0) x0 some
section
open Go.Ab.Rdr
def QA_I := ((pair (cons (ar (rc (cf (fi .u64 hole)))) nil) nil) : Rdr (List AV × List Blk) _)
end
def F_I (f : (Int) → Option (Int)) : Sem1 := fun args h => match (QA_I).rd (args, h) with
  | some b => .opt (f b.1.1) fun (d : Int) => .leaf (Res.mk (rI d) [] [])
  | none => .fail
theorem d_I (l_2 : ∀ {ρ : Type}, (Int × Int) → ((Int) → Option ρ) → Option ρ) (l_1 : ∀ {ρ : Type}, (Int × Int) → ((Int) → Option ρ) → Option ρ) (l_0 : ∀ {ρ : Type}, (Int × Int) → ((Int) → Option ρ) → Option ρ) (x0 : Int) : den Try.prog (envOf []) ⟨[], [], [], [⟨⟨4, u1GN1, []⟩, ⟨4, 0, @R_I_0 (@l_0)⟩⟩, ⟨⟨7, u1GN1, []⟩, ⟨7, 0, @R_I_1 (@l_1)⟩⟩, ⟨⟨10, u1GN1, []⟩, ⟨10, 0,
 @R_I_2 (@l_2)⟩⟩], (some ⟨0, u2GN1, []⟩)⟩ 200 96 [rU x0] [] = K_I (@l_2) (@l_1) (@l_0) x0 (fun (d : Int) => some (Res.mk (rI d) [] [])) := by kernel_rfl
theorem m_I {ρ σ : Type} (q : ρ → Option σ)  (l_2 : ∀ {ρ : Type}, (Int × Int) → ((Int) → Option ρ) → Option ρ) (l_1 : ∀ {ρ : Type}, (Int × Int) → ((Int) → Option ρ) → Option ρ) (l_0 : ∀ {ρ : Type}, (Int × Int) → ((Int) → Option ρ) → Option ρ) (hl_2 : ∀ {ρ σ : Type} (q : ρ → Option σ) (d : Int × Int) (k : (Int) → Option ρ), (l_2 d k).bind q = l_2 d fun x => (k x).bind q) (hl_1 : ∀ {ρ σ : Type} (q : ρ → Option σ) (d : Int × Int) (k : (Int) → Option ρ), (l_1 d k).bind q = l_1 d fun x => (k x).bind q) (hl_0 : ∀ {ρ σ : Type} (q : ρ → Option σ) (d : Int × Int) (k : (Int) → Option ρ), (l_0 d k).bind q = l_0 d fun x => (k x).bind q) (x0 : Int) (k : (Int) → Option ρ) : (K_I  (@l_2) (@l_1) (@l_0) x0 k).bind q = K_I  (@l_2) (@l_1) (@l_0) x0 (fun d => (k d).bind q) := by
  simp only [K_I, bnd_cond, bnd_bind, bnd_none, bnd_sum, hl_2, hl_1, hl_0]
theorem qa_I : ∀ b, (QA_I).em b = ([rU b.1.1], []) := fun b => by kernel_rfl
theorem e_I {f : (Int) → Option (Int)} {args : List AV} {h : List Blk} {r : Res} (hr : (F_I f args h).eval = some r) : ∃ x0, args = [rU x0] ∧ h = [] ∧ (f x0).bind (fun (d : Int) => some (Res.mk (rI d) [] [])) = some r := by
  unfold F_I at hr
  split at hr
  · rename_i b hb
    have e := ((QA_I).ok _ _ hb).trans (qa_I b)
    rw [opt_eval2] at hr
    exact ⟨b.1.1, (Prod.mk.inj e).1, (Prod.mk.inj e).2, hr⟩
  · cases hr
theorem n_I {σ : Type} (q : (Int) → Option σ) (x0 : Int) : (f_I x0).bind q = K_I  (@L_I_2) (@L_I_1) (@L_I_0) x0 q := by
  unfold f_I
  exact m_I q  (@L_I_2) (@L_I_1) (@L_I_0) (fun q d k => mL_I_2 q d k) (fun q d k => mL_I_1 q d k) (fun q d k => mL_I_0 q d k) x0 some
theorem s_I [Amb] : Sound Try.prog 96 (F_I f_I) := (inl_sums (l := []) (.nil _) mixed (hs := ⟨[], [], [], [⟨⟨4, u1GN1, []⟩, ⟨4, 0, @R_I_0 (@L_I_0)⟩⟩, ⟨⟨7, u1GN1, []⟩, ⟨7, 0, @R_I_1 (@L_I_1)⟩⟩, ⟨⟨10, u1GN1, []⟩, ⟨10, 0, @R_I_2 (@L_I_2)⟩⟩], (some ⟨0, u2GN1, []⟩)⟩) (lf := 200) (Sums.by (l := []) (lj := [joinIn Try.prog 96 4,
 joinIn Try.prog 96 7, joinIn Try.prog 96 10]) (by kernel_rfl) trivial (by kernel_rfl) ⟨so_I_0, ⟨so_I_1, ⟨so_I_2, trivial⟩⟩⟩) (by kernel_rfl)).by (F := F_I f_I) fun args b r hr => by
  obtain ⟨x0, rfl, rfl, hr1⟩ := e_I hr
  exact inl_eval ((d_I  (@L_I_2) (@L_I_1) (@L_I_0) x0).trans ((n_I (fun (d : Int) => some (Res.mk (rI d) [] [])) x0).symm.trans hr1))

def K_AT {ρ : Type} (g_I : t7GN1) (x0 : Int) (k : (Int) → Option ρ) : Option ρ := Option.bind (g_I x0) fun (d : Int) => k (IntKind.wrap .i64 (64 - d))
def f_AT (x0 : Int) : Option (Int) := K_AT f_I  x0 some
section
open Go.Ab.Rdr
def QA_AT := ((pair (cons (ar (rc (cf (fi .u64 hole)))) nil) nil) : Rdr (List AV × List Blk) _)
end
def F_AT (f : (Int) → Option (Int)) : Sem1 := fun args h => match (QA_AT).rd (args, h) with
  | some b => .opt (f b.1.1) fun (d : Int) => .leaf (Res.mk (rI d) [] [])
  | none => .fail
theorem d_AT (g_I : t7GN1) (x0 : Int) : den Try.prog (envOf [(96, F_I g_I)]) ⟨[], [], [], [], none⟩ 200 94 [rU x0] [] = K_AT g_I x0 (fun (d : Int) => some (Res.mk (rI d) [] [])) := by kernel_rfl
theorem m_AT {ρ σ : Type} (q : ρ → Option σ) (g_I : t7GN1)   (x0 : Int) (k : (Int) → Option ρ) : (K_AT g_I  x0 k).bind q = K_AT g_I  x0 (fun d => (k d).bind q) := by
  simp only [K_AT, bnd_cond, bnd_bind, bnd_none, bnd_sum]
theorem qa_AT : ∀ b, (QA_AT).em b = ([rU b.1.1], []) := fun b => by kernel_rfl
theorem e_AT {f : (Int) → Option (Int)} {args : List AV} {h : List Blk} {r : Res} (hr : (F_AT f args h).eval = some r) : ∃ x0, args = [rU x0] ∧ h = [] ∧ (f x0).bind (fun (d : Int) => some (Res.mk (rI d) [] [])) = some r := by
  unfold F_AT at hr
  split at hr
  · rename_i b hb
    have e := ((QA_AT).ok _ _ hb).trans (qa_AT b)
    rw [opt_eval2] at hr
    exact ⟨b.1.1, (Prod.mk.inj e).1, (Prod.mk.inj e).2, hr⟩
  · cases hr
theorem n_AT {σ : Type} (q : (Int) → Option σ) (x0 : Int) : (f_AT x0).bind q = K_AT f_I  x0 q := by
  unfold f_AT
  exact m_AT q f_I   x0 some
theorem s_AT [Amb] : Sound Try.prog 94 (F_AT f_AT) := (inl_sound (l := [(96, F_I f_I)]) (.cons s_I (.nil _)) mixed [] [] 200 (by kernel_rfl)).by (F := F_AT f_AT) fun args b r hr => by
  obtain ⟨x0, rfl, rfl, hr1⟩ := e_AT hr
  exact inl_eval ((d_AT f_I  x0).trans ((n_AT (fun (d : Int) => some (Res.mk (rI d) [] [])) x0).symm.trans hr1))

def S_O_0 {ρ : Type} (g_AT : t7GN1) (x0 : Int) (x1 : Int) (x2 : Int) (x3 : Int) (x4 : Int) (x5 : Int) (x6 : Int) (x7 : Int) (x8 : Int) (c : (Int × Int × Int × Int × Int × Int × Int × Int × Int) → Option ρ) (x : (Int × Int × Int × Int × Int × Int × Int × Int × Int × Int × Bool × Int × Bool ⊕ Int ×
 Int × Int × Int × Int × Int × Int × Int × Int × Int × Bool × Int × Int × Int × Int × Bool × Bool ⊕ Int × Int × Int × Int × Int × Int × Int × Int × Int × Bool × Int × Int × Int × Bool) → Option ρ) : Option ρ := bif decide (x7 ≥ 4294967296) then bif decide (IntKind.wrap .u64 (x8 + x2) ≥ 4294967296) then
 x (Sum.inl (x0, x1, x2, x3, x4, x5, x6, IntKind.wrap .u64 (x7 - 1), IntKind.wrap .u64 (x8 + x2), x7, decide (x7 ≥ 4294967296), x8, decide (IntKind.wrap .u64 (x8 + x2) ≥ 4294967296))) else c (x0, x1, x2, x3, x4, x5, x6, IntKind.wrap .u64 (x7 - 1), IntKind.wrap .u64 (x8 + x2)) else
 bif decide (IntKind.wrap .u64 (x7 * x3) > IntKind.wrap .u64 (IntKind.wrap .u64 (4294967296 * x8) + x5)) then bif decide (IntKind.wrap .u64 (x8 + x2) ≥ 4294967296) then x (Sum.inr (Sum.inl (x0, x1, x2, x3, x4, x5, x6, IntKind.wrap .u64 (x7 - 1), IntKind.wrap .u64 (x8 + x2),
 x7, decide (x7 ≥ 4294967296), IntKind.wrap .u64 (x7 * x3), x8, IntKind.wrap .u64 (4294967296 * x8), IntKind.wrap .u64 (IntKind.wrap .u64 (4294967296 * x8) + x5), decide (IntKind.wrap .u64 (x7 * x3) > IntKind.wrap .u64 (IntKind.wrap .u64 (4294967296 * x8) + x5)),
 decide (IntKind.wrap .u64 (x8 + x2) ≥ 4294967296)))) else c (x0, x1, x2, x3, x4, x5, x6, IntKind.wrap .u64 (x7 - 1), IntKind.wrap .u64 (x8 + x2)) else x (Sum.inr (Sum.inr (x0, x1, x2, x3, x4, x5, x6, x7, x8, decide (x7 ≥ 4294967296), IntKind.wrap .u64 (x7 * x3), IntKind.wrap .u64 (4294967296 * x8),
 IntKind.wrap .u64 (IntKind.wrap .u64 (4294967296 * x8) + x5), decide (IntKind.wrap .u64 (x7 * x3) > IntKind.wrap .u64 (IntKind.wrap .u64 (4294967296 * x8) + x5)))))
section
open Go.Ab.Rdr
def Q_O_0 := (st (cons aund (cons aund (cons (ar (rc (cf (fi .u64 hole)))) (cons aund (cons aund (cons aund (cons aund (cons aund (cons (ar (rc (cf (fi .u64 hole)))) (cons (ar (rc (cf (fi .u64 hole)))) (cons (ar (rc (cf (fi .u64 hole)))) (cons (ar (rc (cf (fi .u64 hole)))) (cons aund (cons (ar (rc (cf (fi .u64 hole)))) (cons (ar (rc (cf (fi .u64 hole)))) (cons (ar (rc (cf (fi .u64 hole)))) (cons (ar (rc (cf (fi .u64 hole)))) (cons aund (cons aund (cons aund (cons aund (cons aund (cons aund (cons aund (cons aund (cons aund (cons aund (cons aund (cons aund (cons aund (cons aund (cons aund (cons aund (cons aund (cons aund (cons aund (cons aund (cons aund (cons aund (cons aund (cons aund (cons aund (cons aund (cons aund (cons aund (cons aund (cons aund (cons aund (cons aund (cons aund (cons aund (cons aund (cons aund (cons aund (cons aund (cons aund (cons aund (cons aund (cons aund (cons aund (cons aund (cons aund (cons aund (cons aund (cons aund (cons aund (cons aund (cons aund (cons aund (cons aund (cons aund (cons aund (cons aund (cons aund (cons aund (cons aund (cons aund (cons aund (cons aund (cons aund (cons aund (cons aund (cons aund (cons aund (cons aund (cons aund (cons aund (cons aund (cons aund (cons aund (cons aund (cons aund (cons aund (cons aund (cons aund (cons aund (cons aund (cons aund (cons aund (cons aund (cons aund (cons aund (cons aund (cons aund (cons aund (cons (atup nil) (cons (atup nil) (cons (atup nil) (cons (atup nil) (cons (atup nil) (cons (atup nil) (cons (atup nil) (cons (atup nil) (cons aund (cons aund (cons aund (cons aund (cons aund (cons aund (cons aund (cons aund (cons aund (cons aund (cons aund (cons aund (cons aund (cons aund (cons aund (cons aund (cons aund (cons aund (cons aund (cons aund (cons aund (cons aund nil))))))))))))))))))))))))))))))))))))))))))))))))))))))))))))))))))))))))))))))))))))))))))))))))))))))))))))))))))))))))))))))))))))))) nil nil)
end
theorem q_O_0 : ∀ b, (Q_O_0).em b = St.mk [un, un, rU b.1.2.2.1, un, un, un, un, un, rU b.1.c8.1, rU b.1.c8.2.1, rU b.1.c8.2.2.1,
 rU b.1.c8.2.2.2.1, un, rU b.1.c8.c4.2.1, rU b.1.c8.c4.2.2.1, rU b.1.c8.c4.2.2.2.1, rU b.1.c16.1,
 un, un, un, un, un, un, un, un, un, un, un, un, un, un, un, un, un, un, un, un, un, un, un, un, un, un, un, un, un, un, un, un, un, un, un, un, un, un,
 un, un, un, un, un, un, un, un, un, un, un, un, un, un, un, un, un, un, un, un, un, un, un, un, un, un, un, un, un, un, un, un, un, un, un, un, un, un,
 un, un, un, un, un, un, un, un, un, un, un, un, AV.tup [], AV.tup [], AV.tup [], AV.tup [], AV.tup [], AV.tup [], AV.tup [], AV.tup [], un, un, un, un, un, un, un, un, un, un, un, un, un, un, un,
 un, un, un, un, un, un, un] [] [] := fun b => by kernel_rfl
def R_O_0 (l : ∀ {ρ : Type}, (Int × Int × Int × Int × Int × Int × Int × Int × Int) → ((Int × Int × Int × Int × Int × Int × Int × Int × Int × Int × Bool × Int × Bool ⊕ Int × Int × Int × Int × Int × Int × Int × Int × Int × Int × Bool × Int × Int × Int × Int × Bool × Bool ⊕ Int × Int × Int × Int × Int ×
 Int × Int × Int × Int × Bool × Int × Int × Int × Bool) → Option ρ) → Option ρ) {ρ : Type} (s : St) (K : AX → St → Option ρ) : Option ρ := ((Q_O_0).rd s).bind fun b => l (b.1.2.2.1, b.1.c8.1, b.1.c8.2.1, b.1.c8.2.2.1, b.1.c8.2.2.2.1, b.1.c8.c4.2.1,
 b.1.c8.c4.2.2.1, b.1.c8.c4.2.2.2.1, b.1.c16.1) (Sum.elim (fun d => K (AX.ex 0) (St.mk [un, un, rU d.1, un, un, un, un, un, rU d.2.1, rU d.2.2.1,
 rU d.2.2.2.1, rU d.c4.1, un, rU d.c4.2.1, rU d.c4.2.2.1, rU d.c4.2.2.2.1, rU d.c8.1,
 un, un, un, un, un, un, un, un, un, un, un, un, un, un, un, un, un, un, un, un, un, un, un, un, un, un, un, un, un, un, un, un, un, un, un, un, un, un,
 un, un, un, un, un, un, un, un, un, un, un, un, rU d.c8.2.1, rB d.c8.2.2.1, rB true, AV.tup [], AV.tup [], AV.tup [], AV.tup [], AV.tup [], AV.tup [],
 AV.tup [], AV.tup [], rB true, rU d.c8.2.1, rU d.c4.2.2.2.1, rU d.c8.2.2.2.1, rU d.2.2.1, rU d.c8.1,
 rU d.c8.1, rB d.c8.c4, un, un, un, un, un, un, un, un, un, un, un, un, un, un, un, un, un, un, un, AV.tup [], AV.tup [], AV.tup [], AV.tup [],
 AV.tup [], AV.tup [], AV.tup [], AV.tup [], un, un, un, un, un, un, un, un, un, un, un, un, un, un, un, un, un, un, un, un, un, un] [] [])) (Sum.elim (fun d => K (AX.ex 0) (St.mk [un, un, rU d.1,
 un, un, un, un, un, rU d.2.1, rU d.2.2.1, rU d.2.2.2.1, rU d.c4.1, un, rU d.c4.2.1, rU d.c4.2.2.1,
 rU d.c4.2.2.2.1, rU d.c8.1, un, un, un, un, un, un, un, un, un, un, un, un, un, un, un, un, un, un, un, un, un, un, un, un,
 un, un, un, un, un, un, un, un, un, un, un, un, un, un, un, un, un, un, un, un, un, un, un, un, un, un, rU d.c8.2.1, rB d.c8.2.2.1,
 rB false, rU d.c8.2.1, rU d.2.2.2.1, rU d.c8.2.2.2.1, rU d.c8.c4.1, rU d.c8.c4.2.1,
 rU d.c4.2.1, rU d.c8.c4.2.2.1, rB d.c8.c4.2.2.2.1, rB d.c8.c4.2.2.2.1, rU d.c8.2.1,
 rU d.c4.2.2.2.1, rU d.c8.c4.1, rU d.2.2.1, rU d.c8.1, rU d.c8.1, rB d.c16,
 un, un, un, un, un, un, un, un, un, un, un, un, un, un, un, un, un, un, un, AV.tup [], AV.tup [], AV.tup [], AV.tup [], AV.tup [], AV.tup [], AV.tup [], AV.tup [], un, un, un, un, un, un, un, un,
 un, un, un, un, un, un, un, un, un, un, un, un, un, un] [] [])) (fun d => K (AX.ex 0) (St.mk [un, un, rU d.1, un, un, un, un, un, rU d.2.1, rU d.2.2.1,
 rU d.2.2.2.1, rU d.c4.1, un, rU d.c4.2.1, rU d.c4.2.2.1, rU d.c4.2.2.2.1, rU d.c8.1,
 un, un, un, un, un, un, un, un, un, un, un, un, un, un, un, un, un, un, un, un, un, un, un, un, un, un, un, un, un, un, un, un, un, un, un, un, un, un,
 un, un, un, un, un, un, un, un, un, un, un, un, rU d.c4.2.2.2.1, rB d.c8.2.1, rB false, rU d.c4.2.2.2.1, rU d.2.2.2.1,
 rU d.c8.2.2.1, rU d.c8.1, rU d.c8.2.2.2.1, rU d.c4.2.1, rU d.c8.c4.1,
 rB d.c8.c4.2, rB d.c8.c4.2, un, un, un, un, un, un, un, un, un, un, un, un, un, un, un, un, un, un, un, un, un, un, un, un,
 un, un, AV.tup [], AV.tup [], AV.tup [], AV.tup [], AV.tup [], AV.tup [], AV.tup [], AV.tup [], un, un, un, un, un, un, un, un, un, un, un, un, un, un, un, un, un, un, un, un, un, un] [] []))))
theorem ms_O_0 {ρ σ : Type} (g_AT : t7GN1) (q : ρ → Option σ) (x0 : Int) (x1 : Int) (x2 : Int) (x3 : Int) (x4 : Int) (x5 : Int) (x6 : Int) (x7 : Int) (x8 : Int) (c : (Int × Int × Int × Int × Int × Int × Int × Int × Int) → Option ρ) (x : (Int × Int × Int × Int × Int × Int × Int × Int × Int ×
 Int × Bool × Int × Bool ⊕ Int × Int × Int × Int × Int × Int × Int × Int × Int × Int × Bool × Int × Int × Int × Int × Bool × Bool ⊕ Int × Int × Int × Int × Int × Int × Int × Int × Int × Bool × Int × Int × Int × Bool) → Option ρ) : (S_O_0 g_AT x0 x1 x2 x3 x4 x5 x6 x7 x8 c x).bind q = S_O_0 g_AT x0 x1 x2 x3 x4 x5 x6 x7 x8 (fun d => (c d).bind q) (fun d => (x d).bind q) := by
  simp only [S_O_0, bnd_cond, bnd_bind, bnd_none, bnd_sum]
def L_O_0 {ρ : Type} (d : Int × Int × Int × Int × Int × Int × Int × Int × Int) (k : (Int × Int × Int × Int × Int × Int × Int × Int × Int × Int × Bool × Int × Bool ⊕ Int × Int × Int × Int × Int × Int × Int × Int × Int × Int × Bool × Int × Int × Int × Int × Bool × Bool ⊕ Int × Int × Int × Int × Int × Int ×
 Int × Int × Int × Bool × Int × Int × Int × Bool) → Option ρ) : Option ρ := loopK (fun d c x => S_O_0 f_AT d.1 d.2.1 d.2.2.1 d.2.2.2.1 d.c4.1 d.c4.2.1 d.c4.2.2.1 d.c4.2.2.2.1 d.c8 c x) 200 d k
theorem mL_O_0 {ρ σ : Type} (q : ρ → Option σ) (d : Int × Int × Int × Int × Int × Int × Int × Int × Int) (k : (Int × Int × Int × Int × Int × Int × Int × Int × Int × Int × Bool × Int × Bool ⊕ Int × Int × Int × Int × Int × Int × Int × Int × Int × Int × Bool × Int × Int × Int × Int × Bool × Bool ⊕ Int ×
 Int × Int × Int × Int × Int × Int × Int × Int × Bool × Int × Int × Int × Bool) → Option ρ) : (L_O_0 d k).bind q = L_O_0 d fun x => (k x).bind q := loopK_bind q (fun d c x => ms_O_0 f_AT q d.1 d.2.1 d.2.2.1 d.2.2.2.1 d.c4.1 d.c4.2.1 d.c4.2.2.1 d.c4.2.2.2.1 d.c8 c x) k _ d
def S_O_1 {ρ : Type} (g_AT : t7GN1) (x0 : Int) (x1 : Int) (x2 : Int) (x3 : Int) (x4 : Int) (x5 : Int) (x6 : Int) (x7 : Int) (x8 : Int) (c : (Int × Int × Int × Int × Int × Int × Int × Int × Int) → Option ρ) (x : (Int × Int × Int × Int × Int × Int × Int × Int × Int × Int × Bool × Int × Bool ⊕ Int ×
 Int × Int × Int × Int × Int × Int × Int × Int × Int × Bool × Int × Int × Int × Int × Bool × Bool ⊕ Int × Int × Int × Int × Int × Int × Int × Int × Int × Bool × Int × Int × Int × Bool) → Option ρ) : Option ρ := bif decide (x8 ≥ 4294967296) then bif decide (IntKind.wrap .u64 (x6 + x2) ≥ 4294967296) then
 x (Sum.inl (x0, x1, x2, x3, x4, x5, IntKind.wrap .u64 (x6 + x2), x7, IntKind.wrap .u64 (x8 - 1), x8, decide (x8 ≥ 4294967296), x6, decide (IntKind.wrap .u64 (x6 + x2) ≥ 4294967296))) else c (x0, x1, x2, x3, x4, x5, IntKind.wrap .u64 (x6 + x2), x7, IntKind.wrap .u64 (x8 - 1)) else
 bif decide (IntKind.wrap .u64 (x8 * x3) > IntKind.wrap .u64 (IntKind.wrap .u64 (4294967296 * x6) + x4)) then bif decide (IntKind.wrap .u64 (x6 + x2) ≥ 4294967296) then x (Sum.inr (Sum.inl (x0, x1, x2, x3, x4, x5, IntKind.wrap .u64 (x6 + x2), x7, IntKind.wrap .u64 (x8 - 1),
 x8, decide (x8 ≥ 4294967296), IntKind.wrap .u64 (x8 * x3), x6, IntKind.wrap .u64 (4294967296 * x6), IntKind.wrap .u64 (IntKind.wrap .u64 (4294967296 * x6) + x4), decide (IntKind.wrap .u64 (x8 * x3) > IntKind.wrap .u64 (IntKind.wrap .u64 (4294967296 * x6) + x4)),
 decide (IntKind.wrap .u64 (x6 + x2) ≥ 4294967296)))) else c (x0, x1, x2, x3, x4, x5, IntKind.wrap .u64 (x6 + x2), x7, IntKind.wrap .u64 (x8 - 1)) else x (Sum.inr (Sum.inr (x0, x1, x2, x3, x4, x5, x6, x7, x8, decide (x8 ≥ 4294967296), IntKind.wrap .u64 (x8 * x3), IntKind.wrap .u64 (4294967296 * x6),
 IntKind.wrap .u64 (IntKind.wrap .u64 (4294967296 * x6) + x4), decide (IntKind.wrap .u64 (x8 * x3) > IntKind.wrap .u64 (IntKind.wrap .u64 (4294967296 * x6) + x4)))))
section
open Go.Ab.Rdr
def Q_O_1 := (st (cons aund (cons aund (cons (ar (rc (cf (fi .u64 hole)))) (cons aund (cons aund (cons aund (cons aund (cons aund (cons (ar (rc (cf (fi .u64 hole)))) (cons (ar (rc (cf (fi .u64 hole)))) (cons (ar (rc (cf (fi .u64 hole)))) (cons aund (cons aund (cons aund (cons (ar (rc (cf (fi .u64 hole)))) (cons (ar (rc (cf (fi .u64 hole)))) (cons (ar (rc (cf (fi .u64 hole)))) (cons (ar (rc (cf (fi .u64 hole)))) (cons (ar (rc (cf (fi .u64 hole)))) (cons aund (cons aund (cons aund (cons aund (cons aund (cons aund (cons aund (cons aund (cons aund (cons aund (cons aund (cons aund (cons aund (cons aund (cons aund (cons aund (cons aund (cons aund (cons aund (cons aund (cons aund (cons aund (cons aund (cons aund (cons aund (cons aund (cons aund (cons aund (cons aund (cons aund (cons aund (cons aund (cons aund (cons aund (cons aund (cons aund (cons aund (cons aund (cons aund (cons aund (cons aund (cons aund (cons aund (cons aund (cons aund (cons aund (cons aund (cons aund (cons aund (cons aund (cons aund (cons aund (cons aund (cons aund (cons aund (cons aund (cons aund (cons aund (cons aund (cons aund (cons aund (cons aund (cons aund (cons aund (cons aund (cons aund (cons aund (cons aund (cons aund (cons aund (cons aund (cons aund (cons aund (cons aund (cons aund (cons aund (cons aund (cons aund (cons aund (cons aund (cons aund (cons aund (cons aund (cons aund (cons aund (cons aund (cons aund (cons aund (cons aund (cons aund (cons aund (cons aund (cons aund (cons aund (cons aund (cons aund (cons aund (cons aund (cons aund (cons aund (cons aund (cons aund (cons aund (cons aund (cons aund (cons aund (cons aund (cons aund (cons aund (cons aund (cons aund (cons aund (cons aund (cons aund (cons aund (cons aund nil))))))))))))))))))))))))))))))))))))))))))))))))))))))))))))))))))))))))))))))))))))))))))))))))))))))))))))))))))))))))))))))))))))))) nil nil)
end
theorem q_O_1 : ∀ b, (Q_O_1).em b = St.mk [un, un, rU b.1.2.2.1, un, un, un, un, un, rU b.1.c8.1, rU b.1.c8.2.1, rU b.1.c8.2.2.1,
 un, un, un, rU b.1.c8.c4.2.2.1, rU b.1.c8.c4.2.2.2.1, rU b.1.c16.1, rU b.1.c16.2.1,
 rU b.1.c16.2.2.1, un, un, un, un, un, un, un, un, un, un, un, un, un, un, un, un, un, un, un, un, un, un, un, un, un, un, un, un,
 un, un, un, un, un, un, un, un, un, un, un, un, un, un, un, un, un, un, un, un, un, un, un, un, un, un, un, un, un, un, un, un, un, un, un, un, un, un,
 un, un, un, un, un, un, un, un, un, un, un, un, un, un, un, un, un, un, un, un, un, un, un, un, un, un, un, un, un, un, un, un, un, un, un, un, un, un,
 un, un, un, un, un, un, un, un, un, un, un, un] [] [] := fun b => by kernel_rfl
def R_O_1 (l : ∀ {ρ : Type}, (Int × Int × Int × Int × Int × Int × Int × Int × Int) → ((Int × Int × Int × Int × Int × Int × Int × Int × Int × Int × Bool × Int × Bool ⊕ Int × Int × Int × Int × Int × Int × Int × Int × Int × Int × Bool × Int × Int × Int × Int × Bool × Bool ⊕ Int × Int × Int × Int × Int ×
 Int × Int × Int × Int × Bool × Int × Int × Int × Bool) → Option ρ) → Option ρ) {ρ : Type} (s : St) (K : AX → St → Option ρ) : Option ρ := ((Q_O_1).rd s).bind fun b => l (b.1.2.2.1, b.1.c8.1, b.1.c8.2.1, b.1.c8.2.2.1, b.1.c8.c4.2.2.1, b.1.c8.c4.2.2.2.1,
 b.1.c16.1, b.1.c16.2.1, b.1.c16.2.2.1) (Sum.elim (fun d => K (AX.ex 2) (St.mk [un, un, rU d.1, un, un, un, un, un, rU d.2.1,
 rU d.2.2.1, rU d.2.2.2.1, un, un, un, rU d.c4.1, rU d.c4.2.1, rU d.c4.2.2.1, rU d.c4.2.2.2.1,
 rU d.c8.1, un, un, un, un, un, un, un, un, un, un, un, un, un, un, un, un, un, un, un, un, un, un, un, un, un, un, un, un, un, un, un,
 un, un, un, un, un, un, un, un, un, un, un, un, un, un, un, un, un, un, un, un, un, un, un, un, un, un, un, un, un, un, un, un, un, un, un, un, un, un,
 un, un, un, un, un, un, un, un, un, un, un, un, un, un, rU d.c8.2.1, rB d.c8.2.2.1, rB true, AV.tup [], AV.tup [], AV.tup [], AV.tup [], AV.tup [],
 AV.tup [], AV.tup [], AV.tup [], rB true, rU d.c8.2.1, rU d.c8.1, rU d.c8.2.2.2.1, rU d.2.2.1, rU d.c4.2.2.1,
 rU d.c4.2.2.1, rB d.c8.c4, un, un, un, un, un, un, un, un, un, un, un, un, un, un] [] [])) (Sum.elim (fun d => K (AX.ex 2) (St.mk [un, un, rU d.1,
 un, un, un, un, un, rU d.2.1, rU d.2.2.1, rU d.2.2.2.1, un, un, un, rU d.c4.1, rU d.c4.2.1,
 rU d.c4.2.2.1, rU d.c4.2.2.2.1, rU d.c8.1, un, un, un, un, un, un, un, un, un, un, un, un, un, un, un, un, un,
 un, un, un, un, un, un, un, un, un, un, un, un, un, un, un, un, un, un, un, un, un, un, un, un, un, un, un, un, un, un, un, un, un, un, un, un, un, un,
 un, un, un, un, un, un, un, un, un, un, un, un, un, un, un, un, un, un, un, un, un, un, un, un, un, un, un, un, rU d.c8.2.1, rB d.c8.2.2.1,
 rB false, rU d.c8.2.1, rU d.2.2.2.1, rU d.c8.2.2.2.1, rU d.c8.c4.1, rU d.c8.c4.2.1,
 rU d.c4.1, rU d.c8.c4.2.2.1, rB d.c8.c4.2.2.2.1, rB d.c8.c4.2.2.2.1, rU d.c8.2.1,
 rU d.c8.1, rU d.c8.c4.1, rU d.2.2.1, rU d.c4.2.2.1, rU d.c4.2.2.1, rB d.c16,
 un, un, un, un, un, un, un, un, un, un, un, un, un, un] [] [])) (fun d => K (AX.ex 2) (St.mk [un, un, rU d.1, un, un, un, un, un, rU d.2.1, rU d.2.2.1,
 rU d.2.2.2.1, un, un, un, rU d.c4.1, rU d.c4.2.1, rU d.c4.2.2.1, rU d.c4.2.2.2.1, rU d.c8.1,
 un, un, un, un, un, un, un, un, un, un, un, un, un, un, un, un, un, un, un, un, un, un, un, un, un, un, un, un, un, un, un, un, un, un, un, un, un, un,
 un, un, un, un, un, un, un, un, un, un, un, un, un, un, un, un, un, un, un, un, un, un, un, un, un, un, un, un, un, un, un, un, un, un, un, un, un, un,
 un, un, un, un, un, un, un, rU d.c8.1, rB d.c8.2.1, rB false, rU d.c8.1, rU d.2.2.2.1,
 rU d.c8.2.2.1, rU d.c4.2.2.1, rU d.c8.2.2.2.1, rU d.c4.1, rU d.c8.c4.1,
 rB d.c8.c4.2, rB d.c8.c4.2, un, un, un, un, un, un, un, un, un, un, un, un, un, un, un, un, un, un, un, un, un] [] []))))
theorem ms_O_1 {ρ σ : Type} (g_AT : t7GN1) (q : ρ → Option σ) (x0 : Int) (x1 : Int) (x2 : Int) (x3 : Int) (x4 : Int) (x5 : Int) (x6 : Int) (x7 : Int) (x8 : Int) (c : (Int × Int × Int × Int × Int × Int × Int × Int × Int) → Option ρ) (x : (Int × Int × Int × Int × Int × Int × Int × Int × Int ×
 Int × Bool × Int × Bool ⊕ Int × Int × Int × Int × Int × Int × Int × Int × Int × Int × Bool × Int × Int × Int × Int × Bool × Bool ⊕ Int × Int × Int × Int × Int × Int × Int × Int × Int × Bool × Int × Int × Int × Bool) → Option ρ) : (S_O_1 g_AT x0 x1 x2 x3 x4 x5 x6 x7 x8 c x).bind q = S_O_1 g_AT x0 x1 x2 x3 x4 x5 x6 x7 x8 (fun d => (c d).bind q) (fun d => (x d).bind q) := by
  simp only [S_O_1, bnd_cond, bnd_bind, bnd_none, bnd_sum]
def L_O_1 {ρ : Type} (d : Int × Int × Int × Int × Int × Int × Int × Int × Int) (k : (Int × Int × Int × Int × Int × Int × Int × Int × Int × Int × Bool × Int × Bool ⊕ Int × Int × Int × Int × Int × Int × Int × Int × Int × Int × Bool × Int × Int × Int × Int × Bool × Bool ⊕ Int × Int × Int × Int × Int × Int ×
 Int × Int × Int × Bool × Int × Int × Int × Bool) → Option ρ) : Option ρ := loopK (fun d c x => S_O_1 f_AT d.1 d.2.1 d.2.2.1 d.2.2.2.1 d.c4.1 d.c4.2.1 d.c4.2.2.1 d.c4.2.2.2.1 d.c8 c x) 200 d k
theorem mL_O_1 {ρ σ : Type} (q : ρ → Option σ) (d : Int × Int × Int × Int × Int × Int × Int × Int × Int) (k : (Int × Int × Int × Int × Int × Int × Int × Int × Int × Int × Bool × Int × Bool ⊕ Int × Int × Int × Int × Int × Int × Int × Int × Int × Int × Bool × Int × Int × Int × Int × Bool × Bool ⊕ Int ×
 Int × Int × Int × Int × Int × Int × Int × Int × Bool × Int × Int × Int × Bool) → Option ρ) : (L_O_1 d k).bind q = L_O_1 d fun x => (k x).bind q := loopK_bind q (fun d c x => ms_O_1 f_AT q d.1 d.2.1 d.2.2.1 d.2.2.2.1 d.c4.1 d.c4.2.1 d.c4.2.2.1 d.c4.2.2.2.1 d.c8 c x) k _ d
theorem ds_O_0 {ρ : Type} (g_AT : t7GN1) (l_0 : ∀ {ρ : Type}, (Int × Int × Int × Int × Int × Int × Int × Int × Int) → ((Int × Int × Int × Int × Int × Int × Int × Int × Int × Int × Bool × Int × Bool ⊕ Int × Int × Int × Int × Int × Int × Int × Int × Int × Int × Bool × Int × Int × Int × Int ×
 Bool × Bool ⊕ Int × Int × Int × Int × Int × Int × Int × Int × Int × Bool × Int × Int × Int × Bool) → Option ρ) → Option ρ) (l_1 : ∀ {ρ : Type}, (Int × Int × Int × Int × Int × Int × Int × Int × Int) → ((Int × Int × Int × Int × Int × Int × Int × Int × Int × Int × Bool × Int × Bool ⊕ Int × Int × Int × Int ×
 Int × Int × Int × Int × Int × Int × Bool × Int × Int × Int × Int × Bool × Bool ⊕ Int × Int × Int × Int × Int × Int × Int × Int × Int × Bool × Int × Int × Int × Bool) → Option ρ) → Option ρ) (x0 : Int) (x1 : Int) (x2 : Int) (x3 : Int) (x4 : Int) (x5 : Int) (x6 : Int) (x7 : Int) (x8 : Int) (c : St → Option ρ) (K : AX →
 St → Option ρ) : runC Try.prog (envOf [(94, F_AT g_AT)]) ⟨[⟨17, [0, 1, 3, 4, 5, 6, 7, 12, 17, 18, 19, 20, 21, 22, 23, 24, 25, 26, 27, 28, 29, 30, 31, 32, 33, 34, 35, 36, 37, 38, 39, 40, 41, 42, 43, 44, 45, 46, 47, 48, 49, 50, 51, 52, 53, 54, 55, 56, 57, 58, 59, 60, 61, 62, 63, 64, 65, 66, 67, 68, 69,
 78, 79, 80, 81, 82, 83, 84, 85, 86, 87, 88, 89, 90, 91, 92, 93, 94, 95, 96, 97, 98, 99, 100, 101, 102, 103, 104, 113, 114, 115, 116, 117, 118, 119, 120, 121, 122, 123, 124, 125, 126, 127, 128, 129, 130, 131, 132, 133, 134, 70, 71, 72, 73, 74, 75, 76, 77], []⟩, ⟨24, [0, 1, 3, 4, 5, 6, 7, 11, 12, 13, 19,
 20, 21, 22, 23, 24, 25, 26, 27, 28, 29, 30, 31, 32, 33, 34, 35, 36, 37, 38, 39, 40, 41, 42, 43, 44, 45, 46, 47, 48, 49, 50, 51, 52, 53, 54, 55, 56, 57, 58, 59, 60, 61, 62, 63, 64, 65, 66, 67, 68, 69, 70, 71, 72, 73, 74, 75, 76, 77, 78, 79, 80, 81, 82, 83, 84, 85, 86, 87, 88, 89, 90, 91, 92, 93, 94, 95,
 96, 97, 98, 99, 100, 101, 102, 103, 104, 113, 114, 115, 116, 117, 118, 119, 120, 121, 122, 123, 124, 125, 126, 127, 128, 129, 130, 131, 132, 133, 134, 105, 106, 107, 108, 109, 110, 111, 112], []⟩], [⟨17, 0, @R_O_0 (@l_0)⟩, ⟨24, 0, @R_O_1 (@l_1)⟩], [], [], (some ⟨0, u3GN1, []⟩)⟩ (tmpsOf Try.prog 90) 0 200 (loopIn Try.prog 90 17) (St.mk [un, un,
 rU x0, un, un, un, un, un, rU x1, rU x2, rU x3, rU x4, un, rU x5, rU x6,
 rU x7, rU x8, un, un, un, un, un, un, un, un, un, un, un, un, un, un, un, un, un, un, un, un, un, un, un, un, un, un, un, un,
 un, un, un, un, un, un, un, un, un, un, un, un, un, un, un, un, un, un, un, un, un, un, un, un, un, un, un, un, un, un, un, un, un, un, un, un, un, un,
 un, un, un, un, un, un, un, un, un, un, un, un, un, un, un, un, un, un, un, un, un, un, AV.tup [], AV.tup [], AV.tup [], AV.tup [], AV.tup [], AV.tup [], AV.tup [], AV.tup [], un, un, un, un, un,
 un, un, un, un, un, un, un, un, un, un, un, un, un, un, un, un, un] [] []) (next (fun t => t.head 0 ⟨[⟨17, [0, 1, 3, 4, 5, 6, 7, 12, 17, 18, 19, 20, 21, 22, 23, 24, 25, 26, 27, 28, 29, 30, 31, 32, 33, 34, 35, 36, 37, 38, 39, 40, 41,
 42, 43, 44, 45, 46, 47, 48, 49, 50, 51, 52, 53, 54, 55, 56, 57, 58, 59, 60, 61, 62, 63, 64, 65, 66, 67, 68, 69, 78, 79, 80, 81, 82, 83, 84, 85, 86, 87, 88, 89, 90, 91, 92, 93, 94, 95, 96, 97, 98, 99, 100, 101, 102, 103, 104, 113, 114, 115, 116, 117, 118, 119, 120, 121, 122, 123, 124, 125, 126, 127, 128,
 129, 130, 131, 132, 133, 134, 70, 71, 72, 73, 74, 75, 76, 77], []⟩, ⟨24, [0, 1, 3, 4, 5, 6, 7, 11, 12, 13, 19, 20, 21, 22, 23, 24, 25, 26, 27, 28, 29, 30, 31, 32, 33, 34, 35, 36, 37, 38, 39, 40, 41, 42, 43, 44, 45, 46, 47, 48, 49, 50, 51, 52, 53, 54, 55, 56, 57, 58, 59, 60, 61, 62, 63, 64, 65, 66, 67,
 68, 69, 70, 71, 72, 73, 74, 75, 76, 77, 78, 79, 80, 81, 82, 83, 84, 85, 86, 87, 88, 89, 90, 91, 92, 93, 94, 95, 96, 97, 98, 99, 100, 101, 102, 103, 104, 113, 114, 115, 116, 117, 118, 119, 120, 121, 122, 123, 124, 125, 126, 127, 128, 129, 130, 131, 132, 133, 134, 105, 106, 107, 108, 109, 110, 111, 112],
 []⟩], [⟨17, 0, @R_O_0 (@l_0)⟩, ⟨24, 0, @R_O_1 (@l_1)⟩], [], [], (some ⟨0, u3GN1, []⟩)⟩ (loopIn Try.prog 90 17)) c K) = S_O_0 g_AT x0 x1 x2 x3 x4 x5 x6 x7 x8 (fun d => c (St.mk [un, un, rU d.1, un, un, un, un, un, rU d.2.1, rU d.2.2.1,
 rU d.2.2.2.1, rU d.c4.1, un, rU d.c4.2.1, rU d.c4.2.2.1, rU d.c4.2.2.2.1, rU d.c8,
 un, un, un, un, un, un, un, un, un, un, un, un, un, un, un, un, un, un, un, un, un, un, un, un, un, un, un, un, un, un, un, un, un, un, un, un, un, un,
 un, un, un, un, un, un, un, un, un, un, un, un, un, un, un, un, un, un, un, un, un, un, un, un, un, un, un, un, un, un, un, un, un, un, un, un, un, un,
 un, un, un, un, un, un, un, un, un, un, un, un, AV.tup [], AV.tup [], AV.tup [], AV.tup [], AV.tup [], AV.tup [], AV.tup [], AV.tup [], un, un, un, un, un, un, un, un, un, un, un, un, un, un, un,
 un, un, un, un, un, un, un] [] [])) (Sum.elim (fun d => K (AX.ex 0) (St.mk [un, un, rU d.1, un, un, un, un, un, rU d.2.1, rU d.2.2.1, rU d.2.2.2.1,
 rU d.c4.1, un, rU d.c4.2.1, rU d.c4.2.2.1, rU d.c4.2.2.2.1, rU d.c8.1, un, un, un,
 un, un, un, un, un, un, un, un, un, un, un, un, un, un, un, un, un, un, un, un, un, un, un, un, un, un, un, un, un, un, un, un, un, un, un, un, un, un,
 un, un, un, un, un, un, un, un, un, rU d.c8.2.1, rB d.c8.2.2.1, rB true, AV.tup [], AV.tup [], AV.tup [], AV.tup [], AV.tup [], AV.tup [], AV.tup [], AV.tup [],
 rB true, rU d.c8.2.1, rU d.c4.2.2.2.1, rU d.c8.2.2.2.1, rU d.2.2.1, rU d.c8.1,
 rU d.c8.1, rB d.c8.c4, un, un, un, un, un, un, un, un, un, un, un, un, un, un, un, un, un, un, un, AV.tup [], AV.tup [], AV.tup [], AV.tup [],
 AV.tup [], AV.tup [], AV.tup [], AV.tup [], un, un, un, un, un, un, un, un, un, un, un, un, un, un, un, un, un, un, un, un, un, un] [] [])) (Sum.elim (fun d => K (AX.ex 0) (St.mk [un, un, rU d.1,
 un, un, un, un, un, rU d.2.1, rU d.2.2.1, rU d.2.2.2.1, rU d.c4.1, un, rU d.c4.2.1, rU d.c4.2.2.1,
 rU d.c4.2.2.2.1, rU d.c8.1, un, un, un, un, un, un, un, un, un, un, un, un, un, un, un, un, un, un, un, un, un, un, un, un,
 un, un, un, un, un, un, un, un, un, un, un, un, un, un, un, un, un, un, un, un, un, un, un, un, un, un, rU d.c8.2.1, rB d.c8.2.2.1,
 rB false, rU d.c8.2.1, rU d.2.2.2.1, rU d.c8.2.2.2.1, rU d.c8.c4.1, rU d.c8.c4.2.1,
 rU d.c4.2.1, rU d.c8.c4.2.2.1, rB d.c8.c4.2.2.2.1, rB d.c8.c4.2.2.2.1, rU d.c8.2.1,
 rU d.c4.2.2.2.1, rU d.c8.c4.1, rU d.2.2.1, rU d.c8.1, rU d.c8.1, rB d.c16,
 un, un, un, un, un, un, un, un, un, un, un, un, un, un, un, un, un, un, un, AV.tup [], AV.tup [], AV.tup [], AV.tup [], AV.tup [], AV.tup [], AV.tup [], AV.tup [], un, un, un, un, un, un, un, un,
 un, un, un, un, un, un, un, un, un, un, un, un, un, un] [] [])) (fun d => K (AX.ex 0) (St.mk [un, un, rU d.1, un, un, un, un, un, rU d.2.1, rU d.2.2.1,
 rU d.2.2.2.1, rU d.c4.1, un, rU d.c4.2.1, rU d.c4.2.2.1, rU d.c4.2.2.2.1, rU d.c8.1,
 un, un, un, un, un, un, un, un, un, un, un, un, un, un, un, un, un, un, un, un, un, un, un, un, un, un, un, un, un, un, un, un, un, un, un, un, un, un,
 un, un, un, un, un, un, un, un, un, un, un, un, rU d.c4.2.2.2.1, rB d.c8.2.1, rB false, rU d.c4.2.2.2.1, rU d.2.2.2.1,
 rU d.c8.2.2.1, rU d.c8.1, rU d.c8.2.2.2.1, rU d.c4.2.1, rU d.c8.c4.1,
 rB d.c8.c4.2, rB d.c8.c4.2, un, un, un, un, un, un, un, un, un, un, un, un, un, un, un, un, un, un, un, un, un, un, un, un,
 un, un, AV.tup [], AV.tup [], AV.tup [], AV.tup [], AV.tup [], AV.tup [], AV.tup [], AV.tup [], un, un, un, un, un, un, un, un, un, un, un, un, un, un, un, un, un, un, un, un, un, un] [] [])))) := by kernel_rfl
theorem it_O_0 {ρ : Type} (x0 : Int) (x1 : Int) (x2 : Int) (x3 : Int) (x4 : Int) (x5 : Int) (x6 : Int) (x7 : Int) (x8 : Int) (K : AX → St → Option ρ) : iter (fun t => t.head 0 ⟨[⟨17, [0, 1, 3, 4, 5, 6, 7, 12, 17, 18, 19, 20, 21, 22, 23, 24, 25, 26, 27, 28, 29, 30, 31, 32, 33, 34, 35, 36, 37, 38, 39,
 40, 41, 42, 43, 44, 45, 46, 47, 48, 49, 50, 51, 52, 53, 54, 55, 56, 57, 58, 59, 60, 61, 62, 63, 64, 65, 66, 67, 68, 69, 78, 79, 80, 81, 82, 83, 84, 85, 86, 87, 88, 89, 90, 91, 92, 93, 94, 95, 96, 97, 98, 99, 100, 101, 102, 103, 104, 113, 114, 115, 116, 117, 118, 119, 120, 121, 122, 123, 124, 125, 126,
 127, 128, 129, 130, 131, 132, 133, 134, 70, 71, 72, 73, 74, 75, 76, 77], []⟩, ⟨24, [0, 1, 3, 4, 5, 6, 7, 11, 12, 13, 19, 20, 21, 22, 23, 24, 25, 26, 27, 28, 29, 30, 31, 32, 33, 34, 35, 36, 37, 38, 39, 40, 41, 42, 43, 44, 45, 46, 47, 48, 49, 50, 51, 52, 53, 54, 55, 56, 57, 58, 59, 60, 61, 62, 63, 64,
 65, 66, 67, 68, 69, 70, 71, 72, 73, 74, 75, 76, 77, 78, 79, 80, 81, 82, 83, 84, 85, 86, 87, 88, 89, 90, 91, 92, 93, 94, 95, 96, 97, 98, 99, 100, 101, 102, 103, 104, 113, 114, 115, 116, 117, 118, 119, 120, 121, 122, 123, 124, 125, 126, 127, 128, 129, 130, 131, 132, 133, 134, 105, 106, 107, 108, 109, 110,
 111, 112], []⟩], [⟨17, 0, @R_O_0 (@L_O_0)⟩, ⟨24, 0, @R_O_1 (@L_O_1)⟩], [], [], (some ⟨0, u3GN1, []⟩)⟩ (loopIn Try.prog 90 17)) (runC Try.prog (envOf [(94, F_AT f_AT)]) ⟨[⟨17, [0, 1, 3, 4, 5, 6, 7, 12, 17, 18, 19, 20, 21, 22, 23, 24, 25, 26, 27, 28, 29, 30, 31, 32, 33, 34, 35, 36, 37, 38, 39, 40, 41, 42, 43, 44, 45, 46, 47, 48, 49, 50, 51, 52, 53, 54,
 55, 56, 57, 58, 59, 60, 61, 62, 63, 64, 65, 66, 67, 68, 69, 78, 79, 80, 81, 82, 83, 84, 85, 86, 87, 88, 89, 90, 91, 92, 93, 94, 95, 96, 97, 98, 99, 100, 101, 102, 103, 104, 113, 114, 115, 116, 117, 118, 119, 120, 121, 122, 123, 124, 125, 126, 127, 128, 129, 130, 131, 132, 133, 134, 70, 71, 72, 73, 74,
 75, 76, 77], []⟩, ⟨24, [0, 1, 3, 4, 5, 6, 7, 11, 12, 13, 19, 20, 21, 22, 23, 24, 25, 26, 27, 28, 29, 30, 31, 32, 33, 34, 35, 36, 37, 38, 39, 40, 41, 42, 43, 44, 45, 46, 47, 48, 49, 50, 51, 52, 53, 54, 55, 56, 57, 58, 59, 60, 61, 62, 63, 64, 65, 66, 67, 68, 69, 70, 71, 72, 73, 74, 75, 76, 77, 78, 79,
 80, 81, 82, 83, 84, 85, 86, 87, 88, 89, 90, 91, 92, 93, 94, 95, 96, 97, 98, 99, 100, 101, 102, 103, 104, 113, 114, 115, 116, 117, 118, 119, 120, 121, 122, 123, 124, 125, 126, 127, 128, 129, 130, 131, 132, 133, 134, 105, 106, 107, 108, 109, 110, 111, 112], []⟩], [⟨17, 0, @R_O_0 (@L_O_0)⟩, ⟨24, 0, @R_O_1 (@L_O_1)⟩],
 [], [], (some ⟨0, u3GN1, []⟩)⟩ (tmpsOf Try.prog 90) 0 200 (loopIn Try.prog 90 17)) K 200 (St.mk [un,
 un, rU x0, un, un, un, un, un, rU x1, rU x2, rU x3, rU x4, un, rU x5,
 rU x6, rU x7, rU x8, un, un, un, un, un, un, un, un, un, un, un, un, un, un, un, un, un, un, un, un, un, un,
 un, un, un, un, un, un, un, un, un, un, un, un, un, un, un, un, un, un, un, un, un, un, un, un, un, un, un, un, un, un, un, un, un, un, un, un, un, un,
 un, un, un, un, un, un, un, un, un, un, un, un, un, un, un, un, un, un, un, un, un, un, un, un, un, un, un, un, AV.tup [], AV.tup [], AV.tup [], AV.tup [], AV.tup [], AV.tup [], AV.tup [],
 AV.tup [], un, un, un, un, un, un, un, un, un, un, un, un, un, un, un, un, un, un, un, un, un, un] [] []) = L_O_0 (x0, x1, x2, x3, x4, x5, x6, x7, x8) (Sum.elim (fun d => K (AX.ex 0) (St.mk [un, un, rU d.1,
 un, un, un, un, un, rU d.2.1, rU d.2.2.1, rU d.2.2.2.1, rU d.c4.1, un, rU d.c4.2.1, rU d.c4.2.2.1,
 rU d.c4.2.2.2.1, rU d.c8.1, un, un, un, un, un, un, un, un, un, un, un, un, un, un, un, un, un, un, un, un, un, un, un, un,
 un, un, un, un, un, un, un, un, un, un, un, un, un, un, un, un, un, un, un, un, un, un, un, un, un, un, rU d.c8.2.1, rB d.c8.2.2.1,
 rB true, AV.tup [], AV.tup [], AV.tup [], AV.tup [], AV.tup [], AV.tup [], AV.tup [], AV.tup [], rB true, rU d.c8.2.1, rU d.c4.2.2.2.1, rU d.c8.2.2.2.1,
 rU d.2.2.1, rU d.c8.1, rU d.c8.1, rB d.c8.c4, un, un, un, un, un, un, un, un, un, un, un,
 un, un, un, un, un, un, un, un, AV.tup [], AV.tup [], AV.tup [], AV.tup [], AV.tup [], AV.tup [], AV.tup [], AV.tup [], un, un, un, un, un, un, un, un, un, un, un, un, un, un, un, un, un, un, un,
 un, un, un] [] [])) (Sum.elim (fun d => K (AX.ex 0) (St.mk [un, un, rU d.1, un, un, un, un, un, rU d.2.1, rU d.2.2.1, rU d.2.2.2.1,
 rU d.c4.1, un, rU d.c4.2.1, rU d.c4.2.2.1, rU d.c4.2.2.2.1, rU d.c8.1, un, un, un,
 un, un, un, un, un, un, un, un, un, un, un, un, un, un, un, un, un, un, un, un, un, un, un, un, un, un, un, un, un, un, un, un, un, un, un, un, un, un,
 un, un, un, un, un, un, un, un, un, rU d.c8.2.1, rB d.c8.2.2.1, rB false, rU d.c8.2.1, rU d.2.2.2.1,
 rU d.c8.2.2.2.1, rU d.c8.c4.1, rU d.c8.c4.2.1, rU d.c4.2.1, rU d.c8.c4.2.2.1,
 rB d.c8.c4.2.2.2.1, rB d.c8.c4.2.2.2.1, rU d.c8.2.1, rU d.c4.2.2.2.1, rU d.c8.c4.1,
 rU d.2.2.1, rU d.c8.1, rU d.c8.1, rB d.c16, un, un, un, un, un, un, un, un, un, un,
 un, un, un, un, un, un, un, un, un, AV.tup [], AV.tup [], AV.tup [], AV.tup [], AV.tup [], AV.tup [], AV.tup [], AV.tup [], un, un, un, un, un, un, un, un, un, un, un, un, un, un, un, un, un, un,
 un, un, un, un] [] [])) (fun d => K (AX.ex 0) (St.mk [un, un, rU d.1, un, un, un, un, un, rU d.2.1, rU d.2.2.1, rU d.2.2.2.1,
 rU d.c4.1, un, rU d.c4.2.1, rU d.c4.2.2.1, rU d.c4.2.2.2.1, rU d.c8.1, un, un, un,
 un, un, un, un, un, un, un, un, un, un, un, un, un, un, un, un, un, un, un, un, un, un, un, un, un, un, un, un, un, un, un, un, un, un, un, un, un, un,
 un, un, un, un, un, un, un, un, un, rU d.c4.2.2.2.1, rB d.c8.2.1, rB false, rU d.c4.2.2.2.1, rU d.2.2.2.1,
 rU d.c8.2.2.1, rU d.c8.1, rU d.c8.2.2.2.1, rU d.c4.2.1, rU d.c8.c4.1,
 rB d.c8.c4.2, rB d.c8.c4.2, un, un, un, un, un, un, un, un, un, un, un, un, un, un, un, un, un, un, un, un, un, un, un, un,
 un, un, AV.tup [], AV.tup [], AV.tup [], AV.tup [], AV.tup [], AV.tup [], AV.tup [], AV.tup [], un, un, un, un, un, un, un, un, un, un, un, un, un, un, un, un, un, un, un, un, un, un] [] [])))) := iter_loopX (emb := fun (d : Int ×
 Int × Int × Int × Int × Int × Int × Int × Int) => St.mk [un, un, rU d.1, un, un, un, un, un, rU d.2.1, rU d.2.2.1, rU d.2.2.2.1, rU d.c4.1,
 un, rU d.c4.2.1, rU d.c4.2.2.1, rU d.c4.2.2.2.1, rU d.c8, un, un, un, un, un, un, un, un, un,
 un, un, un, un, un, un, un, un, un, un, un, un, un, un, un, un, un, un, un, un, un, un, un, un, un, un, un, un, un, un, un, un, un, un, un, un, un, un,
 un, un, un, un, un, un, un, un, un, un, un, un, un, un, un, un, un, un, un, un, un, un, un, un, un, un, un, un, un, un, un, un, un, un, un, un, un, un,
 un, un, un, AV.tup [], AV.tup [], AV.tup [], AV.tup [], AV.tup [], AV.tup [], AV.tup [], AV.tup [], un, un, un, un, un, un, un, un, un, un, un, un, un, un, un, un, un, un, un, un, un, un] [] []) (step := fun d c x => S_O_0 f_AT d.1 d.2.1 d.2.2.1 d.2.2.2.1 d.c4.1 d.c4.2.1 d.c4.2.2.1 d.c4.2.2.2.1 d.c8 c x) (kx := (Sum.elim (fun d => K (AX.ex 0) (St.mk [un,
 un, rU d.1, un, un, un, un, un, rU d.2.1, rU d.2.2.1, rU d.2.2.2.1, rU d.c4.1, un, rU d.c4.2.1,
 rU d.c4.2.2.1, rU d.c4.2.2.2.1, rU d.c8.1, un, un, un, un, un, un, un, un, un, un, un, un, un, un, un, un, un,
 un, un, un, un, un, un, un, un, un, un, un, un, un, un, un, un, un, un, un, un, un, un, un, un, un, un, un, un, un, un, un, un, un, rU d.c8.2.1,
 rB d.c8.2.2.1, rB true, AV.tup [], AV.tup [], AV.tup [], AV.tup [], AV.tup [], AV.tup [], AV.tup [], AV.tup [], rB true, rU d.c8.2.1, rU d.c4.2.2.2.1,
 rU d.c8.2.2.2.1, rU d.2.2.1, rU d.c8.1, rU d.c8.1, rB d.c8.c4, un, un, un,
 un, un, un, un, un, un, un, un, un, un, un, un, un, un, un, un, AV.tup [], AV.tup [], AV.tup [], AV.tup [], AV.tup [], AV.tup [], AV.tup [], AV.tup [], un, un, un, un, un, un, un, un, un, un, un,
 un, un, un, un, un, un, un, un, un, un, un] [] [])) (Sum.elim (fun d => K (AX.ex 0) (St.mk [un, un, rU d.1, un, un, un, un, un, rU d.2.1, rU d.2.2.1,
 rU d.2.2.2.1, rU d.c4.1, un, rU d.c4.2.1, rU d.c4.2.2.1, rU d.c4.2.2.2.1, rU d.c8.1,
 un, un, un, un, un, un, un, un, un, un, un, un, un, un, un, un, un, un, un, un, un, un, un, un, un, un, un, un, un, un, un, un, un, un, un, un, un, un,
 un, un, un, un, un, un, un, un, un, un, un, un, rU d.c8.2.1, rB d.c8.2.2.1, rB false, rU d.c8.2.1,
 rU d.2.2.2.1, rU d.c8.2.2.2.1, rU d.c8.c4.1, rU d.c8.c4.2.1, rU d.c4.2.1,
 rU d.c8.c4.2.2.1, rB d.c8.c4.2.2.2.1, rB d.c8.c4.2.2.2.1, rU d.c8.2.1, rU d.c4.2.2.2.1,
 rU d.c8.c4.1, rU d.2.2.1, rU d.c8.1, rU d.c8.1, rB d.c16, un,
 un, un, un, un, un, un, un, un, un, un, un, un, un, un, un, un, un, un, AV.tup [], AV.tup [], AV.tup [], AV.tup [], AV.tup [], AV.tup [], AV.tup [], AV.tup [], un, un, un, un, un, un, un, un, un,
 un, un, un, un, un, un, un, un, un, un, un, un, un] [] [])) (fun d => K (AX.ex 0) (St.mk [un, un, rU d.1, un, un, un, un, un, rU d.2.1, rU d.2.2.1,
 rU d.2.2.2.1, rU d.c4.1, un, rU d.c4.2.1, rU d.c4.2.2.1, rU d.c4.2.2.2.1, rU d.c8.1,
 un, un, un, un, un, un, un, un, un, un, un, un, un, un, un, un, un, un, un, un, un, un, un, un, un, un, un, un, un, un, un, un, un, un, un, un, un, un,
 un, un, un, un, un, un, un, un, un, un, un, un, rU d.c4.2.2.2.1, rB d.c8.2.1, rB false, rU d.c4.2.2.2.1, rU d.2.2.2.1,
 rU d.c8.2.2.1, rU d.c8.1, rU d.c8.2.2.2.1, rU d.c4.2.1, rU d.c8.c4.1,
 rB d.c8.c4.2, rB d.c8.c4.2, un, un, un, un, un, un, un, un, un, un, un, un, un, un, un, un, un, un, un, un, un, un, un, un,
 un, un, AV.tup [], AV.tup [], AV.tup [], AV.tup [], AV.tup [], AV.tup [], AV.tup [], AV.tup [], un, un, un, un, un, un, un, un, un, un, un, un, un, un, un, un, un, un, un, un, un, un] [] []))))) (fun d c => ds_O_0 f_AT (@L_O_0) (@L_O_1) d.1 d.2.1 d.2.2.1 d.2.2.2.1 d.c4.1 d.c4.2.1 d.c4.2.2.1 d.c4.2.2.2.1 d.c8 c K) 200 (x0,
 x1, x2, x3, x4, x5, x6, x7, x8)
theorem so_O_0 [Amb] : ∀ kk, SumOK Try.prog (envOf [(94, F_AT f_AT)]) ⟨[⟨17, [0, 1, 3, 4, 5, 6, 7, 12, 17, 18, 19, 20, 21, 22, 23, 24, 25, 26, 27, 28, 29, 30, 31, 32, 33, 34, 35, 36, 37, 38, 39, 40, 41, 42, 43, 44, 45, 46, 47, 48, 49, 50, 51, 52, 53, 54, 55, 56, 57, 58, 59, 60, 61, 62, 63, 64, 65, 66,
 67, 68, 69, 78, 79, 80, 81, 82, 83, 84, 85, 86, 87, 88, 89, 90, 91, 92, 93, 94, 95, 96, 97, 98, 99, 100, 101, 102, 103, 104, 113, 114, 115, 116, 117, 118, 119, 120, 121, 122, 123, 124, 125, 126, 127, 128, 129, 130, 131, 132, 133, 134, 70, 71, 72, 73, 74, 75, 76, 77], []⟩, ⟨24, [0, 1, 3, 4, 5, 6, 7, 11,
 12, 13, 19, 20, 21, 22, 23, 24, 25, 26, 27, 28, 29, 30, 31, 32, 33, 34, 35, 36, 37, 38, 39, 40, 41, 42, 43, 44, 45, 46, 47, 48, 49, 50, 51, 52, 53, 54, 55, 56, 57, 58, 59, 60, 61, 62, 63, 64, 65, 66, 67, 68, 69, 70, 71, 72, 73, 74, 75, 76, 77, 78, 79, 80, 81, 82, 83, 84, 85, 86, 87, 88, 89, 90, 91, 92,
 93, 94, 95, 96, 97, 98, 99, 100, 101, 102, 103, 104, 113, 114, 115, 116, 117, 118, 119, 120, 121, 122, 123, 124, 125, 126, 127, 128, 129, 130, 131, 132, 133, 134, 105, 106, 107, 108, 109, 110, 111, 112], []⟩], [⟨17, 0, @R_O_0 (@L_O_0)⟩, ⟨24, 0, @R_O_1 (@L_O_1)⟩], [], [], (some ⟨0, u3GN1, []⟩)⟩ (tmpsOf Try.prog 90) kk 200 (loopIn Try.prog 90 17) := SumOK.of (id := 17) (k0 := 0) (run := @R_O_0 (@L_O_0)) (by kernel_rfl) fun s K r hr => by
    unfold R_O_0 at hr
    obtain ⟨b, hb, hr1⟩ := Option.bind_eq_some_iff.1 hr
    have e := ((Q_O_0).ok s b hb).trans (q_O_0 b)
    subst e
    exact ⟨200, (it_O_0 b.1.2.2.1 b.1.c8.1 b.1.c8.2.1 b.1.c8.2.2.1 b.1.c8.2.2.2.1 b.1.c8.c4.2.1 b.1.c8.c4.2.2.1 b.1.c8.c4.2.2.2.1 b.1.c16.1 K).trans hr1⟩
theorem ds_O_1 {ρ : Type} (g_AT : t7GN1) (l_0 : ∀ {ρ : Type}, (Int × Int × Int × Int × Int × Int × Int × Int × Int) → ((Int × Int × Int × Int × Int × Int × Int × Int × Int × Int × Bool × Int × Bool ⊕ Int × Int × Int × Int × Int × Int × Int × Int × Int × Int × Bool × Int × Int × Int × Int ×
 Bool × Bool ⊕ Int × Int × Int × Int × Int × Int × Int × Int × Int × Bool × Int × Int × Int × Bool) → Option ρ) → Option ρ) (l_1 : ∀ {ρ : Type}, (Int × Int × Int × Int × Int × Int × Int × Int × Int) → ((Int × Int × Int × Int × Int × Int × Int × Int × Int × Int × Bool × Int × Bool ⊕ Int × Int × Int × Int ×
 Int × Int × Int × Int × Int × Int × Bool × Int × Int × Int × Int × Bool × Bool ⊕ Int × Int × Int × Int × Int × Int × Int × Int × Int × Bool × Int × Int × Int × Bool) → Option ρ) → Option ρ) (x0 : Int) (x1 : Int) (x2 : Int) (x3 : Int) (x4 : Int) (x5 : Int) (x6 : Int) (x7 : Int) (x8 : Int) (c : St → Option ρ) (K : AX →
 St → Option ρ) : runC Try.prog (envOf [(94, F_AT g_AT)]) ⟨[⟨17, [0, 1, 3, 4, 5, 6, 7, 12, 17, 18, 19, 20, 21, 22, 23, 24, 25, 26, 27, 28, 29, 30, 31, 32, 33, 34, 35, 36, 37, 38, 39, 40, 41, 42, 43, 44, 45, 46, 47, 48, 49, 50, 51, 52, 53, 54, 55, 56, 57, 58, 59, 60, 61, 62, 63, 64, 65, 66, 67, 68, 69,
 78, 79, 80, 81, 82, 83, 84, 85, 86, 87, 88, 89, 90, 91, 92, 93, 94, 95, 96, 97, 98, 99, 100, 101, 102, 103, 104, 113, 114, 115, 116, 117, 118, 119, 120, 121, 122, 123, 124, 125, 126, 127, 128, 129, 130, 131, 132, 133, 134, 70, 71, 72, 73, 74, 75, 76, 77], []⟩, ⟨24, [0, 1, 3, 4, 5, 6, 7, 11, 12, 13, 19,
 20, 21, 22, 23, 24, 25, 26, 27, 28, 29, 30, 31, 32, 33, 34, 35, 36, 37, 38, 39, 40, 41, 42, 43, 44, 45, 46, 47, 48, 49, 50, 51, 52, 53, 54, 55, 56, 57, 58, 59, 60, 61, 62, 63, 64, 65, 66, 67, 68, 69, 70, 71, 72, 73, 74, 75, 76, 77, 78, 79, 80, 81, 82, 83, 84, 85, 86, 87, 88, 89, 90, 91, 92, 93, 94, 95,
 96, 97, 98, 99, 100, 101, 102, 103, 104, 113, 114, 115, 116, 117, 118, 119, 120, 121, 122, 123, 124, 125, 126, 127, 128, 129, 130, 131, 132, 133, 134, 105, 106, 107, 108, 109, 110, 111, 112], []⟩], [⟨17, 0, @R_O_0 (@l_0)⟩, ⟨24, 0, @R_O_1 (@l_1)⟩], [], [], (some ⟨0, u3GN1, []⟩)⟩ (tmpsOf Try.prog 90) 0 200 (loopIn Try.prog 90 24) (St.mk [un, un,
 rU x0, un, un, un, un, un, rU x1, rU x2, rU x3, un, un, un, rU x4, rU x5,
 rU x6, rU x7, rU x8, un, un, un, un, un, un, un, un, un, un, un, un, un, un, un, un, un, un, un, un, un, un,
 un, un, un, un, un, un, un, un, un, un, un, un, un, un, un, un, un, un, un, un, un, un, un, un, un, un, un, un, un, un, un, un, un, un, un, un, un, un,
 un, un, un, un, un, un, un, un, un, un, un, un, un, un, un, un, un, un, un, un, un, un, un, un, un, un, un, un, un, un, un, un, un, un, un, un, un, un,
 un, un, un, un, un, un, un, un, un, un, un, un, un, un, un, un, un, un] [] []) (next (fun t => t.head 0 ⟨[⟨17, [0, 1, 3, 4, 5, 6, 7, 12, 17, 18, 19, 20, 21, 22, 23, 24, 25, 26, 27, 28, 29, 30, 31, 32, 33, 34, 35, 36, 37, 38, 39,
 40, 41, 42, 43, 44, 45, 46, 47, 48, 49, 50, 51, 52, 53, 54, 55, 56, 57, 58, 59, 60, 61, 62, 63, 64, 65, 66, 67, 68, 69, 78, 79, 80, 81, 82, 83, 84, 85, 86, 87, 88, 89, 90, 91, 92, 93, 94, 95, 96, 97, 98, 99, 100, 101, 102, 103, 104, 113, 114, 115, 116, 117, 118, 119, 120, 121, 122, 123, 124, 125, 126,
 127, 128, 129, 130, 131, 132, 133, 134, 70, 71, 72, 73, 74, 75, 76, 77], []⟩, ⟨24, [0, 1, 3, 4, 5, 6, 7, 11, 12, 13, 19, 20, 21, 22, 23, 24, 25, 26, 27, 28, 29, 30, 31, 32, 33, 34, 35, 36, 37, 38, 39, 40, 41, 42, 43, 44, 45, 46, 47, 48, 49, 50, 51, 52, 53, 54, 55, 56, 57, 58, 59, 60, 61, 62, 63, 64,
 65, 66, 67, 68, 69, 70, 71, 72, 73, 74, 75, 76, 77, 78, 79, 80, 81, 82, 83, 84, 85, 86, 87, 88, 89, 90, 91, 92, 93, 94, 95, 96, 97, 98, 99, 100, 101, 102, 103, 104, 113, 114, 115, 116, 117, 118, 119, 120, 121, 122, 123, 124, 125, 126, 127, 128, 129, 130, 131, 132, 133, 134, 105, 106, 107, 108, 109, 110,
 111, 112], []⟩], [⟨17, 0, @R_O_0 (@l_0)⟩, ⟨24, 0, @R_O_1 (@l_1)⟩], [], [], (some ⟨0, u3GN1, []⟩)⟩ (loopIn Try.prog 90 24)) c K) = S_O_1 g_AT x0 x1 x2 x3 x4 x5 x6 x7 x8 (fun d => c (St.mk [un, un, rU d.1, un, un, un, un, un, rU d.2.1, rU d.2.2.1,
 rU d.2.2.2.1, un, un, un, rU d.c4.1, rU d.c4.2.1, rU d.c4.2.2.1, rU d.c4.2.2.2.1, rU d.c8,
 un, un, un, un, un, un, un, un, un, un, un, un, un, un, un, un, un, un, un, un, un, un, un, un, un, un, un, un, un, un, un, un, un, un, un, un, un, un,
 un, un, un, un, un, un, un, un, un, un, un, un, un, un, un, un, un, un, un, un, un, un, un, un, un, un, un, un, un, un, un, un, un, un, un, un, un, un,
 un, un, un, un, un, un, un, un, un, un, un, un, un, un, un, un, un, un, un, un, un, un, un, un, un, un, un, un, un, un, un, un, un, un, un, un, un, un,
 un, un] [] [])) (Sum.elim (fun d => K (AX.ex 2) (St.mk [un, un, rU d.1, un, un, un, un, un, rU d.2.1, rU d.2.2.1, rU d.2.2.2.1,
 un, un, un, rU d.c4.1, rU d.c4.2.1, rU d.c4.2.2.1, rU d.c4.2.2.2.1, rU d.c8.1, un,
 un, un, un, un, un, un, un, un, un, un, un, un, un, un, un, un, un, un, un, un, un, un, un, un, un, un, un, un, un, un, un, un, un, un, un, un, un, un,
 un, un, un, un, un, un, un, un, un, un, un, un, un, un, un, un, un, un, un, un, un, un, un, un, un, un, un, un, un, un, un, un, un, un, un, un, un, un,
 un, un, un, un, un, un, rU d.c8.2.1, rB d.c8.2.2.1, rB true, AV.tup [], AV.tup [], AV.tup [], AV.tup [], AV.tup [], AV.tup [], AV.tup [], AV.tup [], rB true,
 rU d.c8.2.1, rU d.c8.1, rU d.c8.2.2.2.1, rU d.2.2.1, rU d.c4.2.2.1, rU d.c4.2.2.1,
 rB d.c8.c4, un, un, un, un, un, un, un, un, un, un, un, un, un, un] [] [])) (Sum.elim (fun d => K (AX.ex 2) (St.mk [un, un, rU d.1, un, un, un, un,
 un, rU d.2.1, rU d.2.2.1, rU d.2.2.2.1, un, un, un, rU d.c4.1, rU d.c4.2.1, rU d.c4.2.2.1,
 rU d.c4.2.2.2.1, rU d.c8.1, un, un, un, un, un, un, un, un, un, un, un, un, un, un, un, un, un, un, un, un, un, un, un, un,
 un, un, un, un, un, un, un, un, un, un, un, un, un, un, un, un, un, un, un, un, un, un, un, un, un, un, un, un, un, un, un, un, un, un, un, un, un, un,
 un, un, un, un, un, un, un, un, un, un, un, un, un, un, un, un, un, un, un, un, un, rU d.c8.2.1, rB d.c8.2.2.1, rB false,
 rU d.c8.2.1, rU d.2.2.2.1, rU d.c8.2.2.2.1, rU d.c8.c4.1, rU d.c8.c4.2.1,
 rU d.c4.1, rU d.c8.c4.2.2.1, rB d.c8.c4.2.2.2.1, rB d.c8.c4.2.2.2.1, rU d.c8.2.1,
 rU d.c8.1, rU d.c8.c4.1, rU d.2.2.1, rU d.c4.2.2.1, rU d.c4.2.2.1, rB d.c16,
 un, un, un, un, un, un, un, un, un, un, un, un, un, un] [] [])) (fun d => K (AX.ex 2) (St.mk [un, un, rU d.1, un, un, un, un, un, rU d.2.1, rU d.2.2.1,
 rU d.2.2.2.1, un, un, un, rU d.c4.1, rU d.c4.2.1, rU d.c4.2.2.1, rU d.c4.2.2.2.1, rU d.c8.1,
 un, un, un, un, un, un, un, un, un, un, un, un, un, un, un, un, un, un, un, un, un, un, un, un, un, un, un, un, un, un, un, un, un, un, un, un, un, un,
 un, un, un, un, un, un, un, un, un, un, un, un, un, un, un, un, un, un, un, un, un, un, un, un, un, un, un, un, un, un, un, un, un, un, un, un, un, un,
 un, un, un, un, un, un, un, rU d.c8.1, rB d.c8.2.1, rB false, rU d.c8.1, rU d.2.2.2.1,
 rU d.c8.2.2.1, rU d.c4.2.2.1, rU d.c8.2.2.2.1, rU d.c4.1, rU d.c8.c4.1,
 rB d.c8.c4.2, rB d.c8.c4.2, un, un, un, un, un, un, un, un, un, un, un, un, un, un, un, un, un, un, un, un, un] [] [])))) := by kernel_rfl
theorem it_O_1 {ρ : Type} (x0 : Int) (x1 : Int) (x2 : Int) (x3 : Int) (x4 : Int) (x5 : Int) (x6 : Int) (x7 : Int) (x8 : Int) (K : AX → St → Option ρ) : iter (fun t => t.head 0 ⟨[⟨17, [0, 1, 3, 4, 5, 6, 7, 12, 17, 18, 19, 20, 21, 22, 23, 24, 25, 26, 27, 28, 29, 30, 31, 32, 33, 34, 35, 36, 37, 38, 39,
 40, 41, 42, 43, 44, 45, 46, 47, 48, 49, 50, 51, 52, 53, 54, 55, 56, 57, 58, 59, 60, 61, 62, 63, 64, 65, 66, 67, 68, 69, 78, 79, 80, 81, 82, 83, 84, 85, 86, 87, 88, 89, 90, 91, 92, 93, 94, 95, 96, 97, 98, 99, 100, 101, 102, 103, 104, 113, 114, 115, 116, 117, 118, 119, 120, 121, 122, 123, 124, 125, 126,
 127, 128, 129, 130, 131, 132, 133, 134, 70, 71, 72, 73, 74, 75, 76, 77], []⟩, ⟨24, [0, 1, 3, 4, 5, 6, 7, 11, 12, 13, 19, 20, 21, 22, 23, 24, 25, 26, 27, 28, 29, 30, 31, 32, 33, 34, 35, 36, 37, 38, 39, 40, 41, 42, 43, 44, 45, 46, 47, 48, 49, 50, 51, 52, 53, 54, 55, 56, 57, 58, 59, 60, 61, 62, 63, 64,
 65, 66, 67, 68, 69, 70, 71, 72, 73, 74, 75, 76, 77, 78, 79, 80, 81, 82, 83, 84, 85, 86, 87, 88, 89, 90, 91, 92, 93, 94, 95, 96, 97, 98, 99, 100, 101, 102, 103, 104, 113, 114, 115, 116, 117, 118, 119, 120, 121, 122, 123, 124, 125, 126, 127, 128, 129, 130, 131, 132, 133, 134, 105, 106, 107, 108, 109, 110,
 111, 112], []⟩], [⟨17, 0, @R_O_0 (@L_O_0)⟩, ⟨24, 0, @R_O_1 (@L_O_1)⟩], [], [], (some ⟨0, u3GN1, []⟩)⟩ (loopIn Try.prog 90 24)) (runC Try.prog (envOf [(94, F_AT f_AT)]) ⟨[⟨17, [0, 1, 3, 4, 5, 6, 7, 12, 17, 18, 19, 20, 21, 22, 23, 24, 25, 26, 27, 28, 29, 30, 31, 32, 33, 34, 35, 36, 37, 38, 39, 40, 41, 42, 43, 44, 45, 46, 47, 48, 49, 50, 51, 52, 53, 54,
 55, 56, 57, 58, 59, 60, 61, 62, 63, 64, 65, 66, 67, 68, 69, 78, 79, 80, 81, 82, 83, 84, 85, 86, 87, 88, 89, 90, 91, 92, 93, 94, 95, 96, 97, 98, 99, 100, 101, 102, 103, 104, 113, 114, 115, 116, 117, 118, 119, 120, 121, 122, 123, 124, 125, 126, 127, 128, 129, 130, 131, 132, 133, 134, 70, 71, 72, 73, 74,
 75, 76, 77], []⟩, ⟨24, [0, 1, 3, 4, 5, 6, 7, 11, 12, 13, 19, 20, 21, 22, 23, 24, 25, 26, 27, 28, 29, 30, 31, 32, 33, 34, 35, 36, 37, 38, 39, 40, 41, 42, 43, 44, 45, 46, 47, 48, 49, 50, 51, 52, 53, 54, 55, 56, 57, 58, 59, 60, 61, 62, 63, 64, 65, 66, 67, 68, 69, 70, 71, 72, 73, 74, 75, 76, 77, 78, 79,
 80, 81, 82, 83, 84, 85, 86, 87, 88, 89, 90, 91, 92, 93, 94, 95, 96, 97, 98, 99, 100, 101, 102, 103, 104, 113, 114, 115, 116, 117, 118, 119, 120, 121, 122, 123, 124, 125, 126, 127, 128, 129, 130, 131, 132, 133, 134, 105, 106, 107, 108, 109, 110, 111, 112], []⟩], [⟨17, 0, @R_O_0 (@L_O_0)⟩, ⟨24, 0, @R_O_1 (@L_O_1)⟩],
 [], [], (some ⟨0, u3GN1, []⟩)⟩ (tmpsOf Try.prog 90) 0 200 (loopIn Try.prog 90 24)) K 200 (St.mk [un,
 un, rU x0, un, un, un, un, un, rU x1, rU x2, rU x3, un, un, un, rU x4, rU x5,
 rU x6, rU x7, rU x8, un, un, un, un, un, un, un, un, un, un, un, un, un, un, un, un, un, un, un, un, un, un,
 un, un, un, un, un, un, un, un, un, un, un, un, un, un, un, un, un, un, un, un, un, un, un, un, un, un, un, un, un, un, un, un, un, un, un, un, un, un,
 un, un, un, un, un, un, un, un, un, un, un, un, un, un, un, un, un, un, un, un, un, un, un, un, un, un, un, un, un, un, un, un, un, un, un, un, un, un,
 un, un, un, un, un, un, un, un, un, un, un, un, un, un, un, un, un, un] [] []) = L_O_1 (x0, x1, x2, x3, x4, x5, x6, x7, x8) (Sum.elim (fun d => K (AX.ex 2) (St.mk [un, un, rU d.1, un,
 un, un, un, un, rU d.2.1, rU d.2.2.1, rU d.2.2.2.1, un, un, un, rU d.c4.1, rU d.c4.2.1,
 rU d.c4.2.2.1, rU d.c4.2.2.2.1, rU d.c8.1, un, un, un, un, un, un, un, un, un, un, un, un, un, un, un, un, un,
 un, un, un, un, un, un, un, un, un, un, un, un, un, un, un, un, un, un, un, un, un, un, un, un, un, un, un, un, un, un, un, un, un, un, un, un, un, un,
 un, un, un, un, un, un, un, un, un, un, un, un, un, un, un, un, un, un, un, un, un, un, un, un, un, un, un, un, rU d.c8.2.1, rB d.c8.2.2.1,
 rB true, AV.tup [], AV.tup [], AV.tup [], AV.tup [], AV.tup [], AV.tup [], AV.tup [], AV.tup [], rB true, rU d.c8.2.1, rU d.c8.1, rU d.c8.2.2.2.1,
 rU d.2.2.1, rU d.c4.2.2.1, rU d.c4.2.2.1, rB d.c8.c4, un, un, un, un, un, un, un, un, un, un, un, un,
 un, un] [] [])) (Sum.elim (fun d => K (AX.ex 2) (St.mk [un, un, rU d.1, un, un, un, un, un, rU d.2.1, rU d.2.2.1, rU d.2.2.2.1,
 un, un, un, rU d.c4.1, rU d.c4.2.1, rU d.c4.2.2.1, rU d.c4.2.2.2.1, rU d.c8.1, un,
 un, un, un, un, un, un, un, un, un, un, un, un, un, un, un, un, un, un, un, un, un, un, un, un, un, un, un, un, un, un, un, un, un, un, un, un, un, un,
 un, un, un, un, un, un, un, un, un, un, un, un, un, un, un, un, un, un, un, un, un, un, un, un, un, un, un, un, un, un, un, un, un, un, un, un, un, un,
 un, un, un, un, un, un, rU d.c8.2.1, rB d.c8.2.2.1, rB false, rU d.c8.2.1, rU d.2.2.2.1,
 rU d.c8.2.2.2.1, rU d.c8.c4.1, rU d.c8.c4.2.1, rU d.c4.1, rU d.c8.c4.2.2.1,
 rB d.c8.c4.2.2.2.1, rB d.c8.c4.2.2.2.1, rU d.c8.2.1, rU d.c8.1, rU d.c8.c4.1,
 rU d.2.2.1, rU d.c4.2.2.1, rU d.c4.2.2.1, rB d.c16, un, un, un, un, un, un, un, un, un, un, un,
 un, un, un] [] [])) (fun d => K (AX.ex 2) (St.mk [un, un, rU d.1, un, un, un, un, un, rU d.2.1, rU d.2.2.1, rU d.2.2.2.1,
 un, un, un, rU d.c4.1, rU d.c4.2.1, rU d.c4.2.2.1, rU d.c4.2.2.2.1, rU d.c8.1, un,
 un, un, un, un, un, un, un, un, un, un, un, un, un, un, un, un, un, un, un, un, un, un, un, un, un, un, un, un, un, un, un, un, un, un, un, un, un, un,
 un, un, un, un, un, un, un, un, un, un, un, un, un, un, un, un, un, un, un, un, un, un, un, un, un, un, un, un, un, un, un, un, un, un, un, un, un, un,
 un, un, un, un, un, un, rU d.c8.1, rB d.c8.2.1, rB false, rU d.c8.1, rU d.2.2.2.1, rU d.c8.2.2.1,
 rU d.c4.2.2.1, rU d.c8.2.2.2.1, rU d.c4.1, rU d.c8.c4.1, rB d.c8.c4.2, rB d.c8.c4.2,
 un, un, un, un, un, un, un, un, un, un, un, un, un, un, un, un, un, un, un, un, un] [] [])))) := iter_loopX (emb := fun (d : Int × Int × Int × Int × Int × Int × Int × Int × Int) => St.mk [un, un, rU d.1,
 un, un, un, un, un, rU d.2.1, rU d.2.2.1, rU d.2.2.2.1, un, un, un, rU d.c4.1, rU d.c4.2.1,
 rU d.c4.2.2.1, rU d.c4.2.2.2.1, rU d.c8, un, un, un, un, un, un, un, un, un, un, un, un, un, un, un, un, un,
 un, un, un, un, un, un, un, un, un, un, un, un, un, un, un, un, un, un, un, un, un, un, un, un, un, un, un, un, un, un, un, un, un, un, un, un, un, un,
 un, un, un, un, un, un, un, un, un, un, un, un, un, un, un, un, un, un, un, un, un, un, un, un, un, un, un, un, un, un, un, un, un, un, un, un, un, un,
 un, un, un, un, un, un, un, un, un, un, un, un, un, un, un, un, un, un, un, un, un, un, un] [] []) (step := fun d c x => S_O_1 f_AT d.1 d.2.1 d.2.2.1 d.2.2.2.1 d.c4.1 d.c4.2.1 d.c4.2.2.1 d.c4.2.2.2.1 d.c8 c x) (kx := (Sum.elim (fun d => K (AX.ex 2) (St.mk [un,
 un, rU d.1, un, un, un, un, un, rU d.2.1, rU d.2.2.1, rU d.2.2.2.1, un, un, un, rU d.c4.1,
 rU d.c4.2.1, rU d.c4.2.2.1, rU d.c4.2.2.2.1, rU d.c8.1, un, un, un, un, un, un, un, un, un, un,
 un, un, un, un, un, un, un, un, un, un, un, un, un, un, un, un, un, un, un, un, un, un, un, un, un, un, un, un, un, un, un, un, un, un, un, un, un, un,
 un, un, un, un, un, un, un, un, un, un, un, un, un, un, un, un, un, un, un, un, un, un, un, un, un, un, un, un, un, un, un, un, un, un, un, rU d.c8.2.1,
 rB d.c8.2.2.1, rB true, AV.tup [], AV.tup [], AV.tup [], AV.tup [], AV.tup [], AV.tup [], AV.tup [], AV.tup [], rB true, rU d.c8.2.1, rU d.c8.1,
 rU d.c8.2.2.2.1, rU d.2.2.1, rU d.c4.2.2.1, rU d.c4.2.2.1, rB d.c8.c4, un, un, un, un,
 un, un, un, un, un, un, un, un, un, un] [] [])) (Sum.elim (fun d => K (AX.ex 2) (St.mk [un, un, rU d.1, un, un, un, un, un, rU d.2.1, rU d.2.2.1,
 rU d.2.2.2.1, un, un, un, rU d.c4.1, rU d.c4.2.1, rU d.c4.2.2.1, rU d.c4.2.2.2.1, rU d.c8.1,
 un, un, un, un, un, un, un, un, un, un, un, un, un, un, un, un, un, un, un, un, un, un, un, un, un, un, un, un, un, un, un, un, un, un, un, un, un, un,
 un, un, un, un, un, un, un, un, un, un, un, un, un, un, un, un, un, un, un, un, un, un, un, un, un, un, un, un, un, un, un, un, un, un, un, un, un, un,
 un, un, un, un, un, un, un, rU d.c8.2.1, rB d.c8.2.2.1, rB false, rU d.c8.2.1, rU d.2.2.2.1,
 rU d.c8.2.2.2.1, rU d.c8.c4.1, rU d.c8.c4.2.1, rU d.c4.1, rU d.c8.c4.2.2.1,
 rB d.c8.c4.2.2.2.1, rB d.c8.c4.2.2.2.1, rU d.c8.2.1, rU d.c8.1, rU d.c8.c4.1,
 rU d.2.2.1, rU d.c4.2.2.1, rU d.c4.2.2.1, rB d.c16, un, un, un, un, un, un, un, un, un, un, un,
 un, un, un] [] [])) (fun d => K (AX.ex 2) (St.mk [un, un, rU d.1, un, un, un, un, un, rU d.2.1, rU d.2.2.1, rU d.2.2.2.1,
 un, un, un, rU d.c4.1, rU d.c4.2.1, rU d.c4.2.2.1, rU d.c4.2.2.2.1, rU d.c8.1, un,
 un, un, un, un, un, un, un, un, un, un, un, un, un, un, un, un, un, un, un, un, un, un, un, un, un, un, un, un, un, un, un, un, un, un, un, un, un, un,
 un, un, un, un, un, un, un, un, un, un, un, un, un, un, un, un, un, un, un, un, un, un, un, un, un, un, un, un, un, un, un, un, un, un, un, un, un, un,
 un, un, un, un, un, un, rU d.c8.1, rB d.c8.2.1, rB false, rU d.c8.1, rU d.2.2.2.1, rU d.c8.2.2.1,
 rU d.c4.2.2.1, rU d.c8.2.2.2.1, rU d.c4.1, rU d.c8.c4.1, rB d.c8.c4.2, rB d.c8.c4.2,
 un, un, un, un, un, un, un, un, un, un, un, un, un, un, un, un, un, un, un, un, un] [] []))))) (fun d c => ds_O_1 f_AT (@L_O_0) (@L_O_1) d.1 d.2.1 d.2.2.1 d.2.2.2.1 d.c4.1 d.c4.2.1 d.c4.2.2.1 d.c4.2.2.2.1 d.c8 c K) 200 (x0,
 x1, x2, x3, x4, x5, x6, x7, x8)
theorem so_O_1 [Amb] : ∀ kk, SumOK Try.prog (envOf [(94, F_AT f_AT)]) ⟨[⟨17, [0, 1, 3, 4, 5, 6, 7, 12, 17, 18, 19, 20, 21, 22, 23, 24, 25, 26, 27, 28, 29, 30, 31, 32, 33, 34, 35, 36, 37, 38, 39, 40, 41, 42, 43, 44, 45, 46, 47, 48, 49, 50, 51, 52, 53, 54, 55, 56, 57, 58, 59, 60, 61, 62, 63, 64, 65, 66,
 67, 68, 69, 78, 79, 80, 81, 82, 83, 84, 85, 86, 87, 88, 89, 90, 91, 92, 93, 94, 95, 96, 97, 98, 99, 100, 101, 102, 103, 104, 113, 114, 115, 116, 117, 118, 119, 120, 121, 122, 123, 124, 125, 126, 127, 128, 129, 130, 131, 132, 133, 134, 70, 71, 72, 73, 74, 75, 76, 77], []⟩, ⟨24, [0, 1, 3, 4, 5, 6, 7, 11,
 12, 13, 19, 20, 21, 22, 23, 24, 25, 26, 27, 28, 29, 30, 31, 32, 33, 34, 35, 36, 37, 38, 39, 40, 41, 42, 43, 44, 45, 46, 47, 48, 49, 50, 51, 52, 53, 54, 55, 56, 57, 58, 59, 60, 61, 62, 63, 64, 65, 66, 67, 68, 69, 70, 71, 72, 73, 74, 75, 76, 77, 78, 79, 80, 81, 82, 83, 84, 85, 86, 87, 88, 89, 90, 91, 92,
 93, 94, 95, 96, 97, 98, 99, 100, 101, 102, 103, 104, 113, 114, 115, 116, 117, 118, 119, 120, 121, 122, 123, 124, 125, 126, 127, 128, 129, 130, 131, 132, 133, 134, 105, 106, 107, 108, 109, 110, 111, 112], []⟩], [⟨17, 0, @R_O_0 (@L_O_0)⟩, ⟨24, 0, @R_O_1 (@L_O_1)⟩], [], [], (some ⟨0, u3GN1, []⟩)⟩ (tmpsOf Try.prog 90) kk 200 (loopIn Try.prog 90 24) := SumOK.of (id := 24) (k0 := 0) (run := @R_O_1 (@L_O_1)) (by kernel_rfl) fun s K r hr => by
    unfold R_O_1 at hr
    obtain ⟨b, hb, hr1⟩ := Option.bind_eq_some_iff.1 hr
    have e := ((Q_O_1).ok s b hb).trans (q_O_1 b)
    subst e
    exact ⟨200, (it_O_1 b.1.2.2.1 b.1.c8.1 b.1.c8.2.1 b.1.c8.2.2.1 b.1.c8.c4.2.2.1 b.1.c8.c4.2.2.2.1 b.1.c16.1 b.1.c16.2.1 b.1.c16.2.2.1 K).trans hr1⟩
def K_O {ρ : Type} (g_AT : t7GN1) (l_0 : ∀ {ρ : Type}, (Int × Int × Int × Int × Int × Int × Int × Int × Int) → ((Int × Int × Int × Int × Int × Int × Int × Int × Int × Int × Bool × Int × Bool ⊕ Int × Int × Int × Int × Int × Int × Int × Int × Int × Int × Bool × Int × Int × Int × Int × Bool ×
 Bool ⊕ Int × Int × Int × Int × Int × Int × Int × Int × Int × Bool × Int × Int × Int × Bool) → Option ρ) → Option ρ) (l_1 : ∀ {ρ : Type}, (Int × Int × Int × Int × Int × Int × Int × Int × Int) → ((Int × Int × Int × Int × Int × Int × Int × Int × Int × Int × Bool × Int × Bool ⊕ Int × Int × Int × Int × Int ×
 Int × Int × Int × Int × Int × Bool × Int × Int × Int × Int × Bool × Bool ⊕ Int × Int × Int × Int × Int × Int × Int × Int × Int × Bool × Int × Int × Int × Bool) → Option ρ) → Option ρ) (x0 : Int) (x1 : Int) (x2 : Int) (k : (Int × Int) → Option ρ) : Option ρ := bif x2 == 0 then none else bif decide (x2 ≤ x0) then
 none else bif x0 == 0 then bif !decide (x2 = 0) then bif !decide (x2 = 0) then k (IntKind.wrap .u64 (Int.tdiv x1 x2), Int.tmod x1 x2) else none else none else Option.bind (g_AT x2) fun (d : Int) => bif !decide (IntKind.wrap .u64 d < 0) then bif !decide (IntKind.wrap .u64 d < 0) then
 bif !decide (IntKind.wrap .u64 (64 - IntKind.wrap .u64 d) < 0) then bif !decide (IntKind.wrap .u64 d < 0) then bif !decide (Int.fdiv (IntKind.wrap .u64 (x2 * 2 ^ min (Int.toNat (IntKind.wrap .u64 d)) 64)) 4294967296 = 0) then l_0 (IntKind.wrap .u64 (x2 * 2 ^ min (Int.toNat (IntKind.wrap .u64 d)) 64),
 IntKind.wrap .u64 d, Int.fdiv (IntKind.wrap .u64 (x2 * 2 ^ min (Int.toNat (IntKind.wrap .u64 d)) 64)) 4294967296, IntKind.wrap .u64 (Int.ofNat (BitVec.toNat (BitVec.ofInt 64 (IntKind.wrap .u64 (x2 * 2 ^ min (Int.toNat (IntKind.wrap .u64 d)) 64)) &&& BitVec.ofInt 64 4294967295))),
 IntKind.wrap .u64 (Int.ofNat (BitVec.toNat (BitVec.ofInt 64 (IntKind.wrap .u64 (x0 * 2 ^ min (Int.toNat (IntKind.wrap .u64 d)) 64)) ||| BitVec.ofInt 64 (Int.fdiv x1 (2 ^ min (Int.toNat (IntKind.wrap .u64 (64 - IntKind.wrap .u64 d))) 64))))), Int.fdiv (IntKind.wrap .u64 (x1 * 2 ^ min (Int.toNat (IntKind.wrap .u64 d)) 64)) 4294967296,
 IntKind.wrap .u64 (Int.ofNat (BitVec.toNat (BitVec.ofInt 64 (IntKind.wrap .u64 (x1 * 2 ^ min (Int.toNat (IntKind.wrap .u64 d)) 64)) &&& BitVec.ofInt 64 4294967295))), IntKind.wrap .u64 (Int.tdiv (IntKind.wrap .u64 (Int.ofNat (BitVec.toNat (BitVec.ofInt 64 (IntKind.wrap .u64 (x0 * 2 ^ min (Int.toNat (IntKind.wrap .u64 d)) 64)) ||| BitVec.ofInt 64 (Int.fdiv x1 (2 ^ min (Int.toNat (IntKind.wrap .u64 (64 - IntKind.wrap .u64 d))) 64)))))) (Int.fdiv (IntKind.wrap .u64 (x2 * 2 ^ min (Int.toNat (IntKind.wrap .u64 d)) 64)) 4294967296)),
 IntKind.wrap .u64 (IntKind.wrap .u64 (Int.ofNat (BitVec.toNat (BitVec.ofInt 64 (IntKind.wrap .u64 (x0 * 2 ^ min (Int.toNat (IntKind.wrap .u64 d)) 64)) ||| BitVec.ofInt 64 (Int.fdiv x1 (2 ^ min (Int.toNat (IntKind.wrap .u64 (64 - IntKind.wrap .u64 d))) 64))))) - IntKind.wrap .u64 (IntKind.wrap .u64 (Int.tdiv (IntKind.wrap .u64 (Int.ofNat (BitVec.toNat (BitVec.ofInt 64 (IntKind.wrap .u64 (x0 * 2 ^ min (Int.toNat (IntKind.wrap .u64 d)) 64)) ||| BitVec.ofInt 64 (Int.fdiv x1 (2 ^ min (Int.toNat (IntKind.wrap .u64 (64 - IntKind.wrap .u64 d))) 64)))))) (Int.fdiv (IntKind.wrap .u64 (x2 * 2 ^ min (Int.toNat (IntKind.wrap .u64 d)) 64)) 4294967296)) * Int.fdiv (IntKind.wrap .u64 (x2 * 2 ^ min (Int.toNat (IntKind.wrap .u64 d)) 64)) 4294967296))) (Sum.elim (fun (d : Int ×
 Int × Int × Int × Int × Int × Int × Int × Int × Int × Bool × Int × Bool) => bif !decide (d.2.2.1 = 0) then l_1 (d.1, d.2.1, d.2.2.1, d.2.2.2.1, d.c4.2.2.1, d.c4.2.2.2.1, IntKind.wrap .u64 (IntKind.wrap .u64 (IntKind.wrap .u64 (IntKind.wrap .u64 (d.c4.1 * 4294967296) + d.c4.2.1) - IntKind.wrap .u64 (d.c4.2.2.2.1 * d.1)) - IntKind.wrap .u64 (IntKind.wrap .u64 (Int.tdiv (IntKind.wrap .u64 (IntKind.wrap .u64 (IntKind.wrap .u64 (d.c4.1 * 4294967296) + d.c4.2.1) - IntKind.wrap .u64 (d.c4.2.2.2.1 * d.1))) d.2.2.1) * d.2.2.1)),
 IntKind.wrap .u64 (IntKind.wrap .u64 (IntKind.wrap .u64 (d.c4.1 * 4294967296) + d.c4.2.1) - IntKind.wrap .u64 (d.c4.2.2.2.1 * d.1)), IntKind.wrap .u64 (Int.tdiv (IntKind.wrap .u64 (IntKind.wrap .u64 (IntKind.wrap .u64 (d.c4.1 * 4294967296) + d.c4.2.1) - IntKind.wrap .u64 (d.c4.2.2.2.1 * d.1))) d.2.2.1)) (Sum.elim (fun (d : Int ×
 Int × Int × Int × Int × Int × Int × Int × Int × Int × Bool × Int × Bool) => bif !decide (d.2.1 < 0) then k (IntKind.wrap .u64 (IntKind.wrap .u64 (d.c4.2.1 * 4294967296) + d.c8.1), Int.fdiv (IntKind.wrap .u64 (IntKind.wrap .u64 (IntKind.wrap .u64 (d.c4.2.2.2.1 * 4294967296) + d.c4.1) - IntKind.wrap .u64 (d.c8.1 * d.1))) (2 ^ min (Int.toNat d.2.1) 64)) else
 none) (Sum.elim (fun (d : Int × Int × Int × Int × Int × Int × Int × Int × Int × Int × Bool × Int × Int × Int × Int × Bool × Bool) => bif !decide (d.2.1 < 0) then k (IntKind.wrap .u64 (IntKind.wrap .u64 (d.c4.2.1 * 4294967296) + d.c8.1), Int.fdiv (IntKind.wrap .u64 (IntKind.wrap .u64 (IntKind.wrap .u64 (d.c4.2.2.2.1 * 4294967296) + d.c4.1) - IntKind.wrap .u64 (d.c8.1 * d.1))) (2 ^ min (Int.toNat d.2.1) 64)) else
 none) fun (d : Int × Int × Int × Int × Int × Int × Int × Int × Int × Bool × Int × Int × Int × Bool) => bif !decide (d.2.1 < 0) then k (IntKind.wrap .u64 (IntKind.wrap .u64 (d.c4.2.1 * 4294967296) + d.c8.1), Int.fdiv (IntKind.wrap .u64 (IntKind.wrap .u64 (IntKind.wrap .u64 (d.c4.2.2.2.1 * 4294967296) + d.c4.1) - IntKind.wrap .u64 (d.c8.1 * d.1))) (2 ^ min (Int.toNat d.2.1) 64)) else
 none)) else none) (Sum.elim (fun (d : Int × Int × Int × Int × Int × Int × Int × Int × Int × Int × Bool × Int × Int × Int × Int × Bool × Bool) => bif !decide (d.2.2.1 = 0) then l_1 (d.1, d.2.1, d.2.2.1, d.2.2.2.1, d.c4.2.2.1, d.c4.2.2.2.1, IntKind.wrap .u64 (IntKind.wrap .u64 (IntKind.wrap .u64 (IntKind.wrap .u64 (d.c4.1 * 4294967296) + d.c4.2.1) - IntKind.wrap .u64 (d.c4.2.2.2.1 * d.1)) - IntKind.wrap .u64 (IntKind.wrap .u64 (Int.tdiv (IntKind.wrap .u64 (IntKind.wrap .u64 (IntKind.wrap .u64 (d.c4.1 * 4294967296) + d.c4.2.1) - IntKind.wrap .u64 (d.c4.2.2.2.1 * d.1))) d.2.2.1) * d.2.2.1)),
 IntKind.wrap .u64 (IntKind.wrap .u64 (IntKind.wrap .u64 (d.c4.1 * 4294967296) + d.c4.2.1) - IntKind.wrap .u64 (d.c4.2.2.2.1 * d.1)), IntKind.wrap .u64 (Int.tdiv (IntKind.wrap .u64 (IntKind.wrap .u64 (IntKind.wrap .u64 (d.c4.1 * 4294967296) + d.c4.2.1) - IntKind.wrap .u64 (d.c4.2.2.2.1 * d.1))) d.2.2.1)) (Sum.elim (fun (d : Int ×
 Int × Int × Int × Int × Int × Int × Int × Int × Int × Bool × Int × Bool) => bif !decide (d.2.1 < 0) then k (IntKind.wrap .u64 (IntKind.wrap .u64 (d.c4.2.1 * 4294967296) + d.c8.1), Int.fdiv (IntKind.wrap .u64 (IntKind.wrap .u64 (IntKind.wrap .u64 (d.c4.2.2.2.1 * 4294967296) + d.c4.1) - IntKind.wrap .u64 (d.c8.1 * d.1))) (2 ^ min (Int.toNat d.2.1) 64)) else
 none) (Sum.elim (fun (d : Int × Int × Int × Int × Int × Int × Int × Int × Int × Int × Bool × Int × Int × Int × Int × Bool × Bool) => bif !decide (d.2.1 < 0) then k (IntKind.wrap .u64 (IntKind.wrap .u64 (d.c4.2.1 * 4294967296) + d.c8.1), Int.fdiv (IntKind.wrap .u64 (IntKind.wrap .u64 (IntKind.wrap .u64 (d.c4.2.2.2.1 * 4294967296) + d.c4.1) - IntKind.wrap .u64 (d.c8.1 * d.1))) (2 ^ min (Int.toNat d.2.1) 64)) else
 none) fun (d : Int × Int × Int × Int × Int × Int × Int × Int × Int × Bool × Int × Int × Int × Bool) => bif !decide (d.2.1 < 0) then k (IntKind.wrap .u64 (IntKind.wrap .u64 (d.c4.2.1 * 4294967296) + d.c8.1), Int.fdiv (IntKind.wrap .u64 (IntKind.wrap .u64 (IntKind.wrap .u64 (d.c4.2.2.2.1 * 4294967296) + d.c4.1) - IntKind.wrap .u64 (d.c8.1 * d.1))) (2 ^ min (Int.toNat d.2.1) 64)) else
 none)) else none) fun (d : Int × Int × Int × Int × Int × Int × Int × Int × Int × Bool × Int × Int × Int × Bool) => bif !decide (d.2.2.1 = 0) then l_1 (d.1, d.2.1, d.2.2.1, d.2.2.2.1, d.c4.2.2.1, d.c4.2.2.2.1, IntKind.wrap .u64 (IntKind.wrap .u64 (IntKind.wrap .u64 (IntKind.wrap .u64 (d.c4.1 * 4294967296) + d.c4.2.1) - IntKind.wrap .u64 (d.c4.2.2.2.1 * d.1)) - IntKind.wrap .u64 (IntKind.wrap .u64 (Int.tdiv (IntKind.wrap .u64 (IntKind.wrap .u64 (IntKind.wrap .u64 (d.c4.1 * 4294967296) + d.c4.2.1) - IntKind.wrap .u64 (d.c4.2.2.2.1 * d.1))) d.2.2.1) * d.2.2.1)),
 IntKind.wrap .u64 (IntKind.wrap .u64 (IntKind.wrap .u64 (d.c4.1 * 4294967296) + d.c4.2.1) - IntKind.wrap .u64 (d.c4.2.2.2.1 * d.1)), IntKind.wrap .u64 (Int.tdiv (IntKind.wrap .u64 (IntKind.wrap .u64 (IntKind.wrap .u64 (d.c4.1 * 4294967296) + d.c4.2.1) - IntKind.wrap .u64 (d.c4.2.2.2.1 * d.1))) d.2.2.1)) (Sum.elim (fun (d : Int ×
 Int × Int × Int × Int × Int × Int × Int × Int × Int × Bool × Int × Bool) => bif !decide (d.2.1 < 0) then k (IntKind.wrap .u64 (IntKind.wrap .u64 (d.c4.2.1 * 4294967296) + d.c8.1), Int.fdiv (IntKind.wrap .u64 (IntKind.wrap .u64 (IntKind.wrap .u64 (d.c4.2.2.2.1 * 4294967296) + d.c4.1) - IntKind.wrap .u64 (d.c8.1 * d.1))) (2 ^ min (Int.toNat d.2.1) 64)) else
 none) (Sum.elim (fun (d : Int × Int × Int × Int × Int × Int × Int × Int × Int × Int × Bool × Int × Int × Int × Int × Bool × Bool) => bif !decide (d.2.1 < 0) then k (IntKind.wrap .u64 (IntKind.wrap .u64 (d.c4.2.1 * 4294967296) + d.c8.1), Int.fdiv (IntKind.wrap .u64 (IntKind.wrap .u64 (IntKind.wrap .u64 (d.c4.2.2.2.1 * 4294967296) + d.c4.1) - IntKind.wrap .u64 (d.c8.1 * d.1))) (2 ^ min (Int.toNat d.2.1) 64)) else
 none) fun (d : Int × Int × Int × Int × Int × Int × Int × Int × Int × Bool × Int × Int × Int × Bool) => bif !decide (d.2.1 < 0) then k (IntKind.wrap .u64 (IntKind.wrap .u64 (d.c4.2.1 * 4294967296) + d.c8.1), Int.fdiv (IntKind.wrap .u64 (IntKind.wrap .u64 (IntKind.wrap .u64 (d.c4.2.2.2.1 * 4294967296) + d.c4.1) - IntKind.wrap .u64 (d.c8.1 * d.1))) (2 ^ min (Int.toNat d.2.1) 64)) else
 none)) else none)) else none else none else none else none else none
def f_O (x0 : Int) (x1 : Int) (x2 : Int) : Option (Int × Int) := K_O f_AT (@L_O_0) (@L_O_1) x0 x1 x2 some
section
open Go.Ab.Rdr
def QA_O := ((pair (cons (ar (rc (cf (fi .u64 hole)))) (cons (ar (rc (cf (fi .u64 hole)))) (cons (ar (rc (cf (fi .u64 hole)))) nil))) nil) : Rdr (List AV × List Blk) _)
end
def F_O (f : (Int) → (Int) → (Int) → Option (Int × Int)) : Sem1 := fun args h => match (QA_O).rd (args, h) with
  | some b => .opt (f b.1.1 b.1.2.1 b.1.2.2.1) fun (d : Int × Int) => .leaf (Res.mk (AV.tup [RV.c (CV.f (FV.i .u64 d.1)), RV.c (CV.f (FV.i .u64 d.2))]) [] [])
  | none => .fail
theorem d_O (g_AT : t7GN1) (l_0 : ∀ {ρ : Type}, (Int × Int × Int × Int × Int × Int × Int × Int × Int) → ((Int × Int × Int × Int × Int × Int × Int × Int × Int × Int × Bool × Int × Bool ⊕ Int × Int × Int × Int × Int × Int × Int × Int × Int × Int × Bool × Int × Int × Int × Int × Bool × Bool ⊕ Int ×
 Int × Int × Int × Int × Int × Int × Int × Int × Bool × Int × Int × Int × Bool) → Option ρ) → Option ρ) (l_1 : ∀ {ρ : Type}, (Int × Int × Int × Int × Int × Int × Int × Int × Int) → ((Int × Int × Int × Int × Int × Int × Int × Int × Int × Int × Bool × Int × Bool ⊕ Int × Int × Int × Int × Int × Int × Int ×
 Int × Int × Int × Bool × Int × Int × Int × Int × Bool × Bool ⊕ Int × Int × Int × Int × Int × Int × Int × Int × Int × Bool × Int × Int × Int × Bool) → Option ρ) → Option ρ) (x0 : Int) (x1 : Int) (x2 : Int) : den Try.prog (envOf [(94, F_AT g_AT)]) ⟨[⟨17, [0, 1, 3, 4, 5, 6, 7, 12, 17, 18, 19, 20, 21, 22,
 23, 24, 25, 26, 27, 28, 29, 30, 31, 32, 33, 34, 35, 36, 37, 38, 39, 40, 41, 42, 43, 44, 45, 46, 47, 48, 49, 50, 51, 52, 53, 54, 55, 56, 57, 58, 59, 60, 61, 62, 63, 64, 65, 66, 67, 68, 69, 78, 79, 80, 81, 82, 83, 84, 85, 86, 87, 88, 89, 90, 91, 92, 93, 94, 95, 96, 97, 98, 99, 100, 101, 102, 103, 104,
 113, 114, 115, 116, 117, 118, 119, 120, 121, 122, 123, 124, 125, 126, 127, 128, 129, 130, 131, 132, 133, 134, 70, 71, 72, 73, 74, 75, 76, 77], []⟩, ⟨24, [0, 1, 3, 4, 5, 6, 7, 11, 12, 13, 19, 20, 21, 22, 23, 24, 25, 26, 27, 28, 29, 30, 31, 32, 33, 34, 35, 36, 37, 38, 39, 40, 41, 42, 43, 44, 45, 46, 47,
 48, 49, 50, 51, 52, 53, 54, 55, 56, 57, 58, 59, 60, 61, 62, 63, 64, 65, 66, 67, 68, 69, 70, 71, 72, 73, 74, 75, 76, 77, 78, 79, 80, 81, 82, 83, 84, 85, 86, 87, 88, 89, 90, 91, 92, 93, 94, 95, 96, 97, 98, 99, 100, 101, 102, 103, 104, 113, 114, 115, 116, 117, 118, 119, 120, 121, 122, 123, 124, 125, 126,
 127, 128, 129, 130, 131, 132, 133, 134, 105, 106, 107, 108, 109, 110, 111, 112], []⟩], [⟨17, 0, @R_O_0 (@l_0)⟩, ⟨24, 0, @R_O_1 (@l_1)⟩], [], [], (some ⟨0, u3GN1, []⟩)⟩ 200 90 [rU x0, rU x1, rU x2] [] = K_O g_AT (@l_0) (@l_1) x0 x1 x2 (fun (d : Int × Int) => some (Res.mk (AV.tup [RV.c (CV.f (FV.i .u64 d.1)),
 RV.c (CV.f (FV.i .u64 d.2))]) [] [])) := by kernel_rfl
theorem m_O {ρ σ : Type} (q : ρ → Option σ) (g_AT : t7GN1) (l_0 : ∀ {ρ : Type}, (Int × Int × Int × Int × Int × Int × Int × Int × Int) → ((Int × Int × Int × Int × Int × Int × Int × Int × Int × Int × Bool × Int × Bool ⊕ Int × Int × Int × Int × Int × Int × Int × Int × Int × Int × Bool × Int ×
 Int × Int × Int × Bool × Bool ⊕ Int × Int × Int × Int × Int × Int × Int × Int × Int × Bool × Int × Int × Int × Bool) → Option ρ) → Option ρ) (l_1 : ∀ {ρ : Type}, (Int × Int × Int × Int × Int × Int × Int × Int × Int) → ((Int × Int × Int × Int × Int × Int × Int × Int × Int × Int × Bool × Int × Bool ⊕ Int ×
 Int × Int × Int × Int × Int × Int × Int × Int × Int × Bool × Int × Int × Int × Int × Bool × Bool ⊕ Int × Int × Int × Int × Int × Int × Int × Int × Int × Bool × Int × Int × Int × Bool) → Option ρ) → Option ρ) (hl_0 : ∀ {ρ σ : Type} (q : ρ → Option σ) (d : Int × Int × Int × Int × Int × Int × Int × Int ×
 Int) (k : (Int × Int × Int × Int × Int × Int × Int × Int × Int × Int × Bool × Int × Bool ⊕ Int × Int × Int × Int × Int × Int × Int × Int × Int × Int × Bool × Int × Int × Int × Int × Bool × Bool ⊕ Int × Int × Int × Int × Int × Int × Int × Int × Int × Bool × Int × Int × Int × Bool) → Option ρ), (l_0 d k).bind q = l_0 d fun x => (k x).bind q) (hl_1 : ∀ {ρ σ : Type} (q : ρ →
 Option σ) (d : Int × Int × Int × Int × Int × Int × Int × Int × Int) (k : (Int × Int × Int × Int × Int × Int × Int × Int × Int × Int × Bool × Int × Bool ⊕ Int × Int × Int × Int × Int × Int × Int × Int × Int × Int × Bool × Int × Int × Int × Int × Bool × Bool ⊕ Int × Int × Int × Int × Int × Int × Int ×
 Int × Int × Bool × Int × Int × Int × Bool) → Option ρ), (l_1 d k).bind q = l_1 d fun x => (k x).bind q) (x0 : Int) (x1 : Int) (x2 : Int) (k : (Int × Int) → Option ρ) : (K_O g_AT (@l_0) (@l_1) x0 x1 x2 k).bind q = K_O g_AT (@l_0) (@l_1) x0 x1 x2 (fun d => (k d).bind q) := by
  simp only [K_O, bnd_cond, bnd_bind, bnd_none, bnd_sum, hl_0, hl_1]
theorem qa_O : ∀ b, (QA_O).em b = ([rU b.1.1, rU b.1.2.1, rU b.1.2.2.1], []) := fun b => by kernel_rfl
theorem e_O {f : (Int) → (Int) → (Int) → Option (Int × Int)} {args : List AV} {h : List Blk} {r : Res} (hr : (F_O f args h).eval = some r) : ∃ x0 x1 x2, args = [rU x0, rU x1, rU x2] ∧ h = [] ∧ (f x0 x1 x2).bind (fun (d : Int × Int) => some (Res.mk (AV.tup [RV.c (CV.f (FV.i .u64 d.1)), RV.c (CV.f (FV.i .u64 d.2))]) [] [])) = some r := by
  unfold F_O at hr
  split at hr
  · rename_i b hb
    have e := ((QA_O).ok _ _ hb).trans (qa_O b)
    rw [opt_eval2] at hr
    exact ⟨b.1.1, b.1.2.1, b.1.2.2.1, (Prod.mk.inj e).1, (Prod.mk.inj e).2, hr⟩
  · cases hr
theorem n_O {σ : Type} (q : (Int × Int) → Option σ) (x0 : Int) (x1 : Int) (x2 : Int) : (f_O x0 x1 x2).bind q = K_O f_AT (@L_O_0) (@L_O_1) x0 x1 x2 q := by
  unfold f_O
  exact m_O q f_AT (@L_O_0) (@L_O_1) (fun q d k => mL_O_0 q d k) (fun q d k => mL_O_1 q d k) x0 x1 x2 some
theorem s_O [Amb] : Sound Try.prog 90 (F_O f_O) := (inl_sums (l := [(94, F_AT f_AT)]) (.cons s_AT (.nil _)) mixed (hs := ⟨[⟨17, [0, 1, 3, 4, 5, 6, 7, 12, 17, 18, 19, 20, 21, 22, 23, 24, 25, 26, 27, 28, 29, 30, 31, 32, 33, 34, 35, 36, 37, 38, 39, 40, 41, 42, 43, 44, 45, 46, 47, 48, 49, 50, 51, 52, 53,
 54, 55, 56, 57, 58, 59, 60, 61, 62, 63, 64, 65, 66, 67, 68, 69, 78, 79, 80, 81, 82, 83, 84, 85, 86, 87, 88, 89, 90, 91, 92, 93, 94, 95, 96, 97, 98, 99, 100, 101, 102, 103, 104, 113, 114, 115, 116, 117, 118, 119, 120, 121, 122, 123, 124, 125, 126, 127, 128, 129, 130, 131, 132, 133, 134, 70, 71, 72, 73,
 74, 75, 76, 77], []⟩, ⟨24, [0, 1, 3, 4, 5, 6, 7, 11, 12, 13, 19, 20, 21, 22, 23, 24, 25, 26, 27, 28, 29, 30, 31, 32, 33, 34, 35, 36, 37, 38, 39, 40, 41, 42, 43, 44, 45, 46, 47, 48, 49, 50, 51, 52, 53, 54, 55, 56, 57, 58, 59, 60, 61, 62, 63, 64, 65, 66, 67, 68, 69, 70, 71, 72, 73, 74, 75, 76, 77, 78,
 79, 80, 81, 82, 83, 84, 85, 86, 87, 88, 89, 90, 91, 92, 93, 94, 95, 96, 97, 98, 99, 100, 101, 102, 103, 104, 113, 114, 115, 116, 117, 118, 119, 120, 121, 122, 123, 124, 125, 126, 127, 128, 129, 130, 131, 132, 133, 134, 105, 106, 107, 108, 109, 110, 111, 112], []⟩], [⟨17, 0, @R_O_0 (@L_O_0)⟩, ⟨24, 0,
 @R_O_1 (@L_O_1)⟩], [], [], (some ⟨0, u3GN1, []⟩)⟩) (lf := 200) (Sums.by (l := [loopIn Try.prog 90 17,
 loopIn Try.prog 90 24]) (lj := []) (by kernel_rfl) ⟨so_O_0, ⟨so_O_1, trivial⟩⟩ (by kernel_rfl) trivial) (by kernel_rfl)).by (F := F_O f_O) fun args b r hr => by
  obtain ⟨x0, x1, x2, rfl, rfl, hr1⟩ := e_O hr
  exact inl_eval ((d_O f_AT (@L_O_0) (@L_O_1) x0 x1 x2).trans ((n_O (fun (d : Int × Int) => some (Res.mk (AV.tup [RV.c (CV.f (FV.i .u64 d.1)), RV.c (CV.f (FV.i .u64 d.2))]) [] [])) x0 x1 x2).symm.trans hr1))

def K_AG {ρ : Type} (g_Add64 : C3) (x0 : Int) (x1 : Int) (x2 : Int) (x3 : Int) (k : (Int × Int) → Option ρ) : Option ρ := Option.bind (g_Add64 x1 x3 0) fun (d : Int × Int) => Option.bind (g_Add64 x0 x2 d.2) fun (d_1 : Int × Int) => k (d_1.1, d.1)
def f_AG (x0 : Int) (x1 : Int) (x2 : Int) (x3 : Int) : Option (Int × Int) := K_AG f_Add64  x0 x1 x2 x3 some
section
open Go.Ab.Rdr
def QA_AG := ((pair (cons (ar (ra (cons (gc (cf (fi .u64 hole))) (cons (gc (cf (fi .u64 hole))) nil)))) (cons (ar (ra (cons (gc (cf (fi .u64 hole))) (cons (gc (cf (fi .u64 hole))) nil)))) nil)) nil) : Rdr (List AV × List Blk) _)
end
def F_AG (f : (Int) → (Int) → (Int) → (Int) → Option (Int × Int)) : Sem1 := fun args h => match (QA_AG).rd (args, h) with
  | some b => .opt (f b.1.1.1 b.1.1.2.1 b.1.2.1.1 b.1.2.1.2.1) fun (d : Int × Int) => .leaf (Res.mk (AV.r (RV.agg [sU d.1, sU d.2])) [] [])
  | none => .fail
theorem d_AG (g_Add64 : C3) (x0 : Int) (x1 : Int) (x2 : Int) (x3 : Int) : den Try.prog (envOf [(91, F_carry g_Add64)]) ⟨[], [], [], [], none⟩ 200 83 [.r (.agg [.c (.f (.i .u64 x0)), .c (.f (.i .u64 x1))]), .r (.agg [.c (.f (.i .u64 x2)), .c (.f (.i .u64 x3))])] [] = K_AG g_Add64 x0 x1 x2 x3 (fun (d : Int ×
 Int) => some (Res.mk (AV.r (RV.agg [sU d.1, sU d.2])) [] [])) := by kernel_rfl
theorem m_AG {ρ σ : Type} (q : ρ → Option σ) (g_Add64 : C3)   (x0 : Int) (x1 : Int) (x2 : Int) (x3 : Int) (k : (Int × Int) → Option ρ) : (K_AG g_Add64  x0 x1 x2 x3 k).bind q = K_AG g_Add64  x0 x1 x2 x3 (fun d => (k d).bind q) := by
  simp only [K_AG, bnd_cond, bnd_bind, bnd_none, bnd_sum]
theorem qa_AG : ∀ b, (QA_AG).em b = ([.r (.agg [.c (.f (.i .u64 b.1.1.1)), .c (.f (.i .u64 b.1.1.2.1))]), .r (.agg [.c (.f (.i .u64 b.1.2.1.1)), .c (.f (.i .u64 b.1.2.1.2.1))])], []) := fun b => by kernel_rfl
theorem e_AG {f : (Int) → (Int) → (Int) → (Int) → Option (Int × Int)} {args : List AV} {h : List Blk} {r : Res} (hr : (F_AG f args h).eval = some r) : ∃ x0 x1 x2 x3, args = [.r (.agg [.c (.f (.i .u64 x0)), .c (.f (.i .u64 x1))]), .r (.agg [.c (.f (.i .u64 x2)), .c (.f (.i .u64 x3))])] ∧ h = [] ∧ (f x0 x1 x2 x3).bind (fun (d : Int × Int) => some (Res.mk (AV.r (RV.agg [sU d.1, sU d.2])) [] [])) = some r := by
  unfold F_AG at hr
  split at hr
  · rename_i b hb
    have e := ((QA_AG).ok _ _ hb).trans (qa_AG b)
    rw [opt_eval2] at hr
    exact ⟨b.1.1.1, b.1.1.2.1, b.1.2.1.1, b.1.2.1.2.1, (Prod.mk.inj e).1, (Prod.mk.inj e).2, hr⟩
  · cases hr
theorem n_AG {σ : Type} (q : (Int × Int) → Option σ) (x0 : Int) (x1 : Int) (x2 : Int) (x3 : Int) : (f_AG x0 x1 x2 x3).bind q = K_AG f_Add64  x0 x1 x2 x3 q := by
  unfold f_AG
  exact m_AG q f_Add64   x0 x1 x2 x3 some
theorem s_AG [Amb] : Sound Try.prog 83 (F_AG f_AG) := (inl_sound (l := [(91, F_carry f_Add64)]) (.cons s_Add64 (.nil _)) mixed [] [] 200 (by kernel_rfl)).by (F := F_AG f_AG) fun args b r hr => by
  obtain ⟨x0, x1, x2, x3, rfl, rfl, hr1⟩ := e_AG hr
  exact inl_eval ((d_AG f_Add64  x0 x1 x2 x3).trans ((n_AG (fun (d : Int × Int) => some (Res.mk (AV.r (RV.agg [sU d.1, sU d.2])) [] [])) x0 x1 x2 x3).symm.trans hr1))

def K_AE {ρ : Type} (x0 : Int) (x1 : Int) (x2 : Bool) (k : (Int × Bool) → Option ρ) : Option ρ := bif x0 != 0 then bif x0 != 0 then k (0, false) else bif x2 then k (IntKind.wrap .i64 (IntKind.wrap .u64 (0 - x1)), true) else k (IntKind.wrap .i64 x1, true) else bif !x2 then bif decide (x1 > 9223372036854775807) then
 bif decide (x1 > 9223372036854775807) then k (0, false) else bif x2 then k (IntKind.wrap .i64 (IntKind.wrap .u64 (0 - x1)), true) else k (IntKind.wrap .i64 x1, true) else bif x2 then bif decide (x1 > 9223372036854775808) then k (0, false) else bif x2 then k (IntKind.wrap .i64 (IntKind.wrap .u64 (0 - x1)),
 true) else k (IntKind.wrap .i64 x1, true) else bif x2 then k (IntKind.wrap .i64 (IntKind.wrap .u64 (0 - x1)), true) else k (IntKind.wrap .i64 x1, true) else bif x2 then bif decide (x1 > 9223372036854775808) then k (0, false) else bif x2 then k (IntKind.wrap .i64 (IntKind.wrap .u64 (0 - x1)),
 true) else k (IntKind.wrap .i64 x1, true) else bif x2 then k (IntKind.wrap .i64 (IntKind.wrap .u64 (0 - x1)), true) else k (IntKind.wrap .i64 x1, true)
def f_AE (x0 : Int) (x1 : Int) (x2 : Bool) : Option (Int × Bool) := K_AE   x0 x1 x2 some
section
open Go.Ab.Rdr
def QA_AE := ((pair (cons (ar (ra (cons (gc (cf (fi .u64 hole))) (cons (gc (cf (fi .u64 hole))) nil)))) (cons (ar (rc (cf (fb hole)))) nil)) nil) : Rdr (List AV × List Blk) _)
end
def F_AE (f : (Int) → (Int) → (Bool) → Option (Int × Bool)) : Sem1 := fun args h => match (QA_AE).rd (args, h) with
  | some b => .opt (f b.1.1.1 b.1.1.2.1 b.1.2.1) fun (d : Int × Bool) => .leaf (Res.mk (AV.tup [RV.c (fI d.1), RV.c (CV.f (FV.b d.2))]) [] [])
  | none => .fail
theorem d_AE (x0 : Int) (x1 : Int) (x2 : Bool) : den Try.prog (envOf []) ⟨[], [], [], [], none⟩ 200 84 [.r (.agg [.c (.f (.i .u64 x0)), .c (.f (.i .u64 x1))]), rB x2] [] = K_AE x0 x1 x2 (fun (d : Int × Bool) => some (Res.mk (AV.tup [RV.c (fI d.1), RV.c (CV.f (FV.b d.2))]) [] [])) := by kernel_rfl
theorem m_AE {ρ σ : Type} (q : ρ → Option σ)    (x0 : Int) (x1 : Int) (x2 : Bool) (k : (Int × Bool) → Option ρ) : (K_AE   x0 x1 x2 k).bind q = K_AE   x0 x1 x2 (fun d => (k d).bind q) := by
  simp only [K_AE, bnd_cond, bnd_bind, bnd_none, bnd_sum]
theorem qa_AE : ∀ b, (QA_AE).em b = ([.r (.agg [.c (.f (.i .u64 b.1.1.1)), .c (.f (.i .u64 b.1.1.2.1))]), rB b.1.2.1], []) := fun b => by kernel_rfl
theorem e_AE {f : (Int) → (Int) → (Bool) → Option (Int × Bool)} {args : List AV} {h : List Blk} {r : Res} (hr : (F_AE f args h).eval = some r) : ∃ x0 x1 x2, args = [.r (.agg [.c (.f (.i .u64 x0)), .c (.f (.i .u64 x1))]), rB x2] ∧ h = [] ∧ (f x0 x1 x2).bind (fun (d : Int × Bool) => some (Res.mk (AV.tup [RV.c (fI d.1), RV.c (CV.f (FV.b d.2))]) [] [])) = some r := by
  unfold F_AE at hr
  split at hr
  · rename_i b hb
    have e := ((QA_AE).ok _ _ hb).trans (qa_AE b)
    rw [opt_eval2] at hr
    exact ⟨b.1.1.1, b.1.1.2.1, b.1.2.1, (Prod.mk.inj e).1, (Prod.mk.inj e).2, hr⟩
  · cases hr
theorem n_AE {σ : Type} (q : (Int × Bool) → Option σ) (x0 : Int) (x1 : Int) (x2 : Bool) : (f_AE x0 x1 x2).bind q = K_AE   x0 x1 x2 q := by
  unfold f_AE
  exact m_AE q    x0 x1 x2 some
theorem s_AE [Amb] : Sound Try.prog 84 (F_AE f_AE) := (inl_sound (l := []) (.nil _) mixed [] [] 200 (by kernel_rfl)).by (F := F_AE f_AE) fun args b r hr => by
  obtain ⟨x0, x1, x2, rfl, rfl, hr1⟩ := e_AE hr
  exact inl_eval ((d_AE   x0 x1 x2).trans ((n_AE (fun (d : Int × Bool) => some (Res.mk (AV.tup [RV.c (fI d.1), RV.c (CV.f (FV.b d.2))]) [] [])) x0 x1 x2).symm.trans hr1))

def K_Av {ρ : Type} (g_Ah : t10GN1) (g_AS : t7GN1) (g_O : t11GN1) (g_AG : t12GN1) (g_AE : t13GN1) (x0 : Int) (x1 : Int) (x2 : Int) (k : (Int × Bool) → Option ρ) : Option ρ := bif x2 == 0 then
 k (0, false) else Option.bind (g_Ah x0 x1) fun (d : Int × Int × Bool) => Option.bind (g_AS x2) fun (d_1 : Int) => bif !decide (d_1 = 0) then bif !decide (d_1 = 0) then Option.bind (g_O (Int.tmod d.1 d_1) d.2.1 d_1) fun (d_2 : Int × Int) => bif decide (d_2.2 ≥ IntKind.wrap .u64 (d_1 - d_2.2)) then
 Option.bind (g_AG (IntKind.wrap .u64 (Int.tdiv d.1 d_1)) d_2.1 0 1) fun (d_3 : Int × Int) => Option.bind (g_AE d_3.1 d_3.2 !d.2.2 == decide (x2 < 0)) fun (d : Int × Bool) => k (d.1, d.2) else Option.bind (g_AE (IntKind.wrap .u64 (Int.tdiv d.1 d_1)) d_2.1 !d.2.2 == decide (x2 < 0)) fun (d : Int ×
 Bool) => k (d.1, d.2) else none else none
def f_Av (x0 : Int) (x1 : Int) (x2 : Int) : Option (Int × Bool) := K_Av f_Ah f_AS f_O f_AG f_AE  x0 x1 x2 some
section
open Go.Ab.Rdr
def QA_Av := ((pair (cons (ar (ra (cons (gc (cf (fi .i64 hole))) (cons (gc (cf (fi .u64 hole))) nil)))) (cons (ar (rc (cf (fi .i64 hole)))) nil)) nil) : Rdr (List AV × List Blk) _)
end
def F_Av (f : (Int) → (Int) → (Int) → Option (Int × Bool)) : Sem1 := fun args h => match (QA_Av).rd (args, h) with
  | some b => .opt (f b.1.1.1 b.1.1.2.1 b.1.2.1) fun (d : Int × Bool) => .leaf (Res.mk (AV.tup [RV.c (fI d.1), RV.c (CV.f (FV.b d.2))]) [] [])
  | none => .fail
theorem d_Av (g_Ah : t10GN1) (g_AS : t7GN1) (g_O : t11GN1) (g_AG : t12GN1) (g_AE : t13GN1) (x0 : Int) (x1 : Int) (x2 : Int) : den Try.prog (envOf [(82, F_Ah g_Ah),
 (76, F_AS g_AS), (90, F_O g_O), (83, F_AG g_AG), (84, F_AE g_AE)]) ⟨[], [], [], [], none⟩ 200 74 [.r (.agg [.c (.f (.i .i64 x0)), .c (.f (.i .u64 x1))]), rI x2] [] = K_Av g_Ah g_AS g_O g_AG g_AE x0 x1 x2 (fun (d : Int × Bool) => some (Res.mk (AV.tup [RV.c (fI d.1),
 RV.c (CV.f (FV.b d.2))]) [] [])) := by kernel_rfl
theorem m_Av {ρ σ : Type} (q : ρ → Option σ) (g_Ah : t10GN1) (g_AS : t7GN1) (g_O : t11GN1) (g_AG : t12GN1) (g_AE : t13GN1)   (x0 : Int) (x1 : Int) (x2 : Int) (k : (Int × Bool) → Option ρ) : (K_Av g_Ah g_AS g_O g_AG g_AE  x0 x1 x2 k).bind q = K_Av g_Ah g_AS g_O g_AG g_AE  x0 x1 x2 (fun d => (k d).bind q) := by
  simp only [K_Av, bnd_cond, bnd_bind, bnd_none, bnd_sum]
theorem qa_Av : ∀ b, (QA_Av).em b = ([.r (.agg [.c (.f (.i .i64 b.1.1.1)), .c (.f (.i .u64 b.1.1.2.1))]), rI b.1.2.1], []) := fun b => by kernel_rfl
theorem e_Av {f : (Int) → (Int) → (Int) → Option (Int × Bool)} {args : List AV} {h : List Blk} {r : Res} (hr : (F_Av f args h).eval = some r) : ∃ x0 x1 x2, args = [.r (.agg [.c (.f (.i .i64 x0)), .c (.f (.i .u64 x1))]), rI x2] ∧ h = [] ∧ (f x0 x1 x2).bind (fun (d : Int × Bool) => some (Res.mk (AV.tup [RV.c (fI d.1), RV.c (CV.f (FV.b d.2))]) [] [])) = some r := by
  unfold F_Av at hr
  split at hr
  · rename_i b hb
    have e := ((QA_Av).ok _ _ hb).trans (qa_Av b)
    rw [opt_eval2] at hr
    exact ⟨b.1.1.1, b.1.1.2.1, b.1.2.1, (Prod.mk.inj e).1, (Prod.mk.inj e).2, hr⟩
  · cases hr
theorem n_Av {σ : Type} (q : (Int × Bool) → Option σ) (x0 : Int) (x1 : Int) (x2 : Int) : (f_Av x0 x1 x2).bind q = K_Av f_Ah f_AS f_O f_AG f_AE  x0 x1 x2 q := by
  unfold f_Av
  exact m_Av q f_Ah f_AS f_O f_AG f_AE   x0 x1 x2 some
theorem s_Av [Amb] : Sound Try.prog 74 (F_Av f_Av) := (inl_sound (l := [(82, F_Ah f_Ah), (76, F_AS f_AS), (90, F_O f_O), (83, F_AG f_AG), (84, F_AE f_AE)]) (.cons s_Ah (.cons s_AS (.cons s_O (.cons s_AG (.cons s_AE (.nil _)))))) mixed [] [] 200 (by kernel_rfl)).by (F := F_Av f_Av) fun args b r hr => by
  obtain ⟨x0, x1, x2, rfl, rfl, hr1⟩ := e_Av hr
  exact inl_eval ((d_Av f_Ah f_AS f_O f_AG f_AE  x0 x1 x2).trans ((n_Av (fun (d : Int × Bool) => some (Res.mk (AV.tup [RV.c (fI d.1), RV.c (CV.f (FV.b d.2))]) [] [])) x0 x1 x2).symm.trans hr1))

def K_AK {ρ : Type} (g_An : t14GN1) (g_J : t15GN1) (x0 : Int) (x1 : Bool) (x2 : Bool) (x3 : Bool) (k : (Int × Bool) → Option ρ) : Option ρ := bif !x1 then Option.bind (g_An x2) fun (d : Int) => k (d, true) else Option.bind (g_J x0 x3) fun (d : Int × Bool) => k (d.1,
 d.2)
def f_AK (x0 : Int) (x1 : Bool) (x2 : Bool) (x3 : Bool) : Option (Int × Bool) := K_AK f_An f_J  x0 x1 x2 x3 some
section
open Go.Ab.Rdr
def QA_AK := ((pair (cons (ar (rc (cptr (nat 0) (ok' (nat 0)) (nat 1)))) (cons (ar (rc (cf (fi .i64 hole)))) (cons (ar (rc (cf (fb hole)))) (cons (ar (rc (cf (fb hole)))) nil)))) (cons (cons (gc (cf (fb hole))) nil) nil)) : Rdr (List AV × List Blk) _)
end
def F_AK (f : (Int) → (Bool) → (Bool) → (Bool) → Option (Int × Bool)) : Sem1 := fun args h => match (QA_AK).rd (args, h) with
  | some b => .opt (f b.1.2.1 b.1.2.2.1 b.1.2.2.2.1 b.2.1.1) fun (d : Int × Bool) => .leaf (Res.mk (rI d.1) [Ch.set [sB d.2]] [])
  | none => .fail
theorem d_AK (g_An : t14GN1) (g_J : t15GN1) (x0 : Int) (x1 : Bool) (x2 : Bool) (x3 : Bool) : den Try.prog (envOf [(73, F_An g_An), (52, F_J g_J)]) ⟨[], [], [], [], none⟩ 200 64 [.r (.c (.ptr 0 (.k 0) 1)), rI x0, rB x1, rB x2] [[.c (.f (.b x3))]] = K_AK g_An g_J x0 x1 x2 x3 (fun (d : Int ×
 Bool) => some (Res.mk (rI d.1) [Ch.set [sB d.2]] [])) := by kernel_rfl
theorem m_AK {ρ σ : Type} (q : ρ → Option σ) (g_An : t14GN1) (g_J : t15GN1)   (x0 : Int) (x1 : Bool) (x2 : Bool) (x3 : Bool) (k : (Int × Bool) → Option ρ) : (K_AK g_An g_J  x0 x1 x2 x3 k).bind q = K_AK g_An g_J  x0 x1 x2 x3 (fun d => (k d).bind q) := by
  simp only [K_AK, bnd_cond, bnd_bind, bnd_none, bnd_sum]
theorem qa_AK : ∀ b, (QA_AK).em b = ([.r (.c (.ptr 0 (.k 0) 1)), rI b.1.2.1, rB b.1.2.2.1, rB b.1.2.2.2.1], [[.c (.f (.b b.2.1.1))]]) := fun b => by kernel_rfl
theorem e_AK {f : (Int) → (Bool) → (Bool) → (Bool) → Option (Int × Bool)} {args : List AV} {h : List Blk} {r : Res} (hr : (F_AK f args h).eval = some r) : ∃ x0 x1 x2 x3, args = [.r (.c (.ptr 0 (.k 0) 1)), rI x0, rB x1, rB x2] ∧ h = [[.c (.f (.b x3))]] ∧ (f x0 x1 x2 x3).bind (fun (d : Int × Bool) => some (Res.mk (rI d.1) [Ch.set [sB d.2]] [])) = some r := by
  unfold F_AK at hr
  split at hr
  · rename_i b hb
    have e := ((QA_AK).ok _ _ hb).trans (qa_AK b)
    rw [opt_eval2] at hr
    exact ⟨b.1.2.1, b.1.2.2.1, b.1.2.2.2.1, b.2.1.1, (Prod.mk.inj e).1, (Prod.mk.inj e).2, hr⟩
  · cases hr
theorem n_AK {σ : Type} (q : (Int × Bool) → Option σ) (x0 : Int) (x1 : Bool) (x2 : Bool) (x3 : Bool) : (f_AK x0 x1 x2 x3).bind q = K_AK f_An f_J  x0 x1 x2 x3 q := by
  unfold f_AK
  exact m_AK q f_An f_J   x0 x1 x2 x3 some
theorem s_AK [Amb] : Sound Try.prog 64 (F_AK f_AK) := (inl_sound (l := [(73, F_An f_An), (52, F_J f_J)]) (.cons s_An (.cons s_J (.nil _))) mixed [] [] 200 (by kernel_rfl)).by (F := F_AK f_AK) fun args b r hr => by
  obtain ⟨x0, x1, x2, x3, rfl, rfl, hr1⟩ := e_AK hr
  exact inl_eval ((d_AK f_An f_J  x0 x1 x2 x3).trans ((n_AK (fun (d : Int × Bool) => some (Res.mk (rI d.1) [Ch.set [sB d.2]] [])) x0 x1 x2 x3).symm.trans hr1))

def K_Ai {ρ : Type} (g_An : t14GN1) (g_Av : t16GN1) (g_AK : t17GN1) (x0 : Int) (x1 : Int) (x2 : Int) (x3 : Bool) (k : (Int × Bool) → Option ρ) : Option ρ := bif x2 == 0 then bif x0 == 0 && (x1 == 0 && true) then k (0, true) else
 Option.bind (g_An (decide (x0 < 0))) fun (d : Int) => k (d, true) else Option.bind (g_Av x0 x1 x2) fun (d : Int × Bool) => Option.bind (g_AK d.1 d.2 (!decide (x0 < 0) == decide (x2 < 0)) x3) fun (d : Int × Bool) => k (d.1, d.2)
def f_Ai (x0 : Int) (x1 : Int) (x2 : Int) (x3 : Bool) : Option (Int × Bool) := K_Ai f_An f_Av f_AK  x0 x1 x2 x3 some
section
open Go.Ab.Rdr
def QA_Ai := ((pair (cons (ar (rc (cptr (nat 0) (ok' (nat 0)) (nat 1)))) (cons (ar (ra (cons (gc (cf (fi .i64 hole))) (cons (gc (cf (fi .u64 hole))) nil)))) (cons (ar (rc (cf (fi .i64 hole)))) nil))) (cons (cons (gc (cf (fb hole))) nil) nil)) : Rdr (List AV × List Blk) _)
end
def F_Ai (f : (Int) → (Int) → (Int) → (Bool) → Option (Int × Bool)) : Sem1 := fun args h => match (QA_Ai).rd (args, h) with
  | some b => .opt (f b.1.2.1.1 b.1.2.1.2.1 b.1.2.2.1 b.2.1.1) fun (d : Int × Bool) => .leaf (Res.mk (rI d.1) [Ch.set [sB d.2]] [])
  | none => .fail
theorem d_Ai (g_An : t14GN1) (g_Av : t16GN1) (g_AK : t17GN1) (x0 : Int) (x1 : Int) (x2 : Int) (x3 : Bool) : den Try.prog (envOf [(73, F_An g_An), (74, F_Av g_Av), (64, F_AK g_AK)]) ⟨[], [], [], [], none⟩ 200 50 [.r (.c (.ptr 0 (.k 0) 1)),
 .r (.agg [.c (.f (.i .i64 x0)), .c (.f (.i .u64 x1))]), rI x2] [[.c (.f (.b x3))]] = K_Ai g_An g_Av g_AK x0 x1 x2 x3 (fun (d : Int × Bool) => some (Res.mk (rI d.1) [Ch.set [sB d.2]] [])) := by kernel_rfl
theorem m_Ai {ρ σ : Type} (q : ρ → Option σ) (g_An : t14GN1) (g_Av : t16GN1) (g_AK : t17GN1)   (x0 : Int) (x1 : Int) (x2 : Int) (x3 : Bool) (k : (Int × Bool) → Option ρ) : (K_Ai g_An g_Av g_AK  x0 x1 x2 x3 k).bind q = K_Ai g_An g_Av g_AK  x0 x1 x2 x3 (fun d => (k d).bind q) := by
  simp only [K_Ai, bnd_cond, bnd_bind, bnd_none, bnd_sum]
theorem qa_Ai : ∀ b, (QA_Ai).em b = ([.r (.c (.ptr 0 (.k 0) 1)), .r (.agg [.c (.f (.i .i64 b.1.2.1.1)), .c (.f (.i .u64 b.1.2.1.2.1))]), rI b.1.2.2.1], [[.c (.f (.b b.2.1.1))]]) := fun b => by kernel_rfl
theorem e_Ai {f : (Int) → (Int) → (Int) → (Bool) → Option (Int × Bool)} {args : List AV} {h : List Blk} {r : Res} (hr : (F_Ai f args h).eval = some r) : ∃ x0 x1 x2 x3, args = [.r (.c (.ptr 0 (.k 0) 1)), .r (.agg [.c (.f (.i .i64 x0)), .c (.f (.i .u64 x1))]), rI x2] ∧ h = [[.c (.f (.b x3))]] ∧ (f x0 x1 x2 x3).bind (fun (d : Int × Bool) => some (Res.mk (rI d.1) [Ch.set [sB d.2]] [])) = some r := by
  unfold F_Ai at hr
  split at hr
  · rename_i b hb
    have e := ((QA_Ai).ok _ _ hb).trans (qa_Ai b)
    rw [opt_eval2] at hr
    exact ⟨b.1.2.1.1, b.1.2.1.2.1, b.1.2.2.1, b.2.1.1, (Prod.mk.inj e).1, (Prod.mk.inj e).2, hr⟩
  · cases hr
theorem n_Ai {σ : Type} (q : (Int × Bool) → Option σ) (x0 : Int) (x1 : Int) (x2 : Int) (x3 : Bool) : (f_Ai x0 x1 x2 x3).bind q = K_Ai f_An f_Av f_AK  x0 x1 x2 x3 q := by
  unfold f_Ai
  exact m_Ai q f_An f_Av f_AK   x0 x1 x2 x3 some
theorem s_Ai [Amb] : Sound Try.prog 50 (F_Ai f_Ai) := (inl_sound (l := [(73, F_An f_An), (74, F_Av f_Av), (64, F_AK f_AK)]) (.cons s_An (.cons s_Av (.cons s_AK (.nil _)))) mixed [] [] 200 (by kernel_rfl)).by (F := F_Ai f_Ai) fun args b r hr => by
  obtain ⟨x0, x1, x2, x3, rfl, rfl, hr1⟩ := e_Ai hr
  exact inl_eval ((d_Ai f_An f_Av f_AK  x0 x1 x2 x3).trans ((n_Ai (fun (d : Int × Bool) => some (Res.mk (rI d.1) [Ch.set [sB d.2]] [])) x0 x1 x2 x3).symm.trans hr1))

def K_S {ρ : Type} (g_J : t15GN1) (g_Ag : t8GN1) (g_Ai : t6GN1) (x0 : Int) (x1 : Int) (x2 : Int) (x3 : Bool) (k : (Int × Bool) → Option ρ) : Option ρ := Option.bind (g_J x0 x3) fun (d : Int × Bool) => Option.bind (g_J x1 d.2) fun (d_1 : Int ×
 Bool) => Option.bind (g_Ag d.1 d_1.1) fun (d : Int × Int) => Option.bind (g_J x2 d_1.2) fun (d_2 : Int × Bool) => Option.bind (g_Ai d.1 d.2 d_2.1 d_2.2) fun (d : Int × Bool) => k (d.1, d.2)
def f_S (x0 : Int) (x1 : Int) (x2 : Int) (x3 : Bool) : Option (Int × Bool) := K_S f_J f_Ag f_Ai  x0 x1 x2 x3 some
section
open Go.Ab.Rdr
def QA_S := ((pair (cons (ar (rc (cptr (nat 0) (ok' (nat 0)) (nat 1)))) (cons (ar (rc (cf (fi .i64 hole)))) (cons (ar (rc (cf (fi .i64 hole)))) (cons (ar (rc (cf (fi .i64 hole)))) nil)))) (cons (cons (gc (cf (fb hole))) nil) nil)) : Rdr (List AV × List Blk) _)
end
def F_S (f : (Int) → (Int) → (Int) → (Bool) → Option (Int × Bool)) : Sem1 := fun args h => match (QA_S).rd (args, h) with
  | some b => .opt (f b.1.2.1 b.1.2.2.1 b.1.2.2.2.1 b.2.1.1) fun (d : Int × Bool) => .leaf (Res.mk (rI d.1) [Ch.set [sB d.2]] [])
  | none => .fail
theorem d_S (g_J : t15GN1) (g_Ag : t8GN1) (g_Ai : t6GN1) (x0 : Int) (x1 : Int) (x2 : Int) (x3 : Bool) : den Try.prog (envOf [(52, F_J g_J), (51, F_Ag g_Ag), (50, F_Ai g_Ai)]) ⟨[], [], [], [], none⟩ 200 28 [.r (.c (.ptr 0 (.k 0) 1)),
 rI x0, rI x1, rI x2] [[.c (.f (.b x3))]] = K_S g_J g_Ag g_Ai x0 x1 x2 x3 (fun (d : Int × Bool) => some (Res.mk (rI d.1) [Ch.set [sB d.2]] [])) := by kernel_rfl
theorem m_S {ρ σ : Type} (q : ρ → Option σ) (g_J : t15GN1) (g_Ag : t8GN1) (g_Ai : t6GN1)   (x0 : Int) (x1 : Int) (x2 : Int) (x3 : Bool) (k : (Int × Bool) → Option ρ) : (K_S g_J g_Ag g_Ai  x0 x1 x2 x3 k).bind q = K_S g_J g_Ag g_Ai  x0 x1 x2 x3 (fun d => (k d).bind q) := by
  simp only [K_S, bnd_cond, bnd_bind, bnd_none, bnd_sum]
theorem qa_S : ∀ b, (QA_S).em b = ([.r (.c (.ptr 0 (.k 0) 1)), rI b.1.2.1, rI b.1.2.2.1, rI b.1.2.2.2.1], [[.c (.f (.b b.2.1.1))]]) := fun b => by kernel_rfl
theorem e_S {f : (Int) → (Int) → (Int) → (Bool) → Option (Int × Bool)} {args : List AV} {h : List Blk} {r : Res} (hr : (F_S f args h).eval = some r) : ∃ x0 x1 x2 x3, args = [.r (.c (.ptr 0 (.k 0) 1)), rI x0, rI x1, rI x2] ∧ h = [[.c (.f (.b x3))]] ∧ (f x0 x1 x2 x3).bind (fun (d : Int × Bool) => some (Res.mk (rI d.1) [Ch.set [sB d.2]] [])) = some r := by
  unfold F_S at hr
  split at hr
  · rename_i b hb
    have e := ((QA_S).ok _ _ hb).trans (qa_S b)
    rw [opt_eval2] at hr
    exact ⟨b.1.2.1, b.1.2.2.1, b.1.2.2.2.1, b.2.1.1, (Prod.mk.inj e).1, (Prod.mk.inj e).2, hr⟩
  · cases hr
theorem n_S {σ : Type} (q : (Int × Bool) → Option σ) (x0 : Int) (x1 : Int) (x2 : Int) (x3 : Bool) : (f_S x0 x1 x2 x3).bind q = K_S f_J f_Ag f_Ai  x0 x1 x2 x3 q := by
  unfold f_S
  exact m_S q f_J f_Ag f_Ai   x0 x1 x2 x3 some
theorem s_S [Amb] : Sound Try.prog 28 (F_S f_S) := (inl_sound (l := [(52, F_J f_J), (51, F_Ag f_Ag), (50, F_Ai f_Ai)]) (.cons s_J (.cons s_Ag (.cons s_Ai (.nil _)))) mixed [] [] 200 (by kernel_rfl)).by (F := F_S f_S) fun args b r hr => by
  obtain ⟨x0, x1, x2, x3, rfl, rfl, hr1⟩ := e_S hr
  exact inl_eval ((d_S f_J f_Ag f_Ai  x0 x1 x2 x3).trans ((n_S (fun (d : Int × Bool) => some (Res.mk (rI d.1) [Ch.set [sB d.2]] [])) x0 x1 x2 x3).symm.trans hr1))

def K_AY {ρ : Type} (g_S : t6GN1) (g_AP : t6GN1) (x0 : Int) (k : (Int) → Option ρ) : Option ρ := Option.bind (g_S (IntKind.wrap .i64 (x0 * x0)) 17592186044416 1000000 false) fun (d : Int × Bool) => Option.bind (g_AP d.1 1 72057594037927936 d.2) fun (d : Int ×
 Bool) => k d.1
def f_AY (x0 : Int) : Option (Int) := K_AY f_S f_AP  x0 some
section
open Go.Ab.Rdr
def QA_AY := ((pair (cons (ar (rc (cf (fi .i64 hole)))) nil) nil) : Rdr (List AV × List Blk) _)
end
def F_AY (f : (Int) → Option (Int)) : Sem1 := fun args h => match (QA_AY).rd (args, h) with
  | some b => .opt (f b.1.1) fun (d : Int) => .leaf (Res.mk (rI d) [] [])
  | none => .fail
theorem d_AY (g_S : t6GN1) (g_AP : t6GN1) (x0 : Int) : den Try.prog (envOf [(28, F_S g_S), (37, F_AP g_AP)]) ⟨[], [], [], [], none⟩ 200 27 [rI x0] [] = K_AY g_S g_AP x0 (fun (d : Int) => some (Res.mk (rI d) [] [])) := by kernel_rfl
theorem m_AY {ρ σ : Type} (q : ρ → Option σ) (g_S : t6GN1) (g_AP : t6GN1)   (x0 : Int) (k : (Int) → Option ρ) : (K_AY g_S g_AP  x0 k).bind q = K_AY g_S g_AP  x0 (fun d => (k d).bind q) := by
  simp only [K_AY, bnd_cond, bnd_bind, bnd_none, bnd_sum]
theorem qa_AY : ∀ b, (QA_AY).em b = ([rI b.1.1], []) := fun b => by kernel_rfl
theorem e_AY {f : (Int) → Option (Int)} {args : List AV} {h : List Blk} {r : Res} (hr : (F_AY f args h).eval = some r) : ∃ x0, args = [rI x0] ∧ h = [] ∧ (f x0).bind (fun (d : Int) => some (Res.mk (rI d) [] [])) = some r := by
  unfold F_AY at hr
  split at hr
  · rename_i b hb
    have e := ((QA_AY).ok _ _ hb).trans (qa_AY b)
    rw [opt_eval2] at hr
    exact ⟨b.1.1, (Prod.mk.inj e).1, (Prod.mk.inj e).2, hr⟩
  · cases hr
theorem n_AY {σ : Type} (q : (Int) → Option σ) (x0 : Int) : (f_AY x0).bind q = K_AY f_S f_AP  x0 q := by
  unfold f_AY
  exact m_AY q f_S f_AP   x0 some
theorem s_AY [Amb] : Sound Try.prog 27 (F_AY f_AY) := (inl_sound (l := [(28, F_S f_S), (37, F_AP f_AP)]) (.cons s_S (.cons s_AP (.nil _))) mixed [] [] 200 (by kernel_rfl)).by (F := F_AY f_AY) fun args b r hr => by
  obtain ⟨x0, rfl, rfl, hr1⟩ := e_AY hr
  exact inl_eval ((d_AY f_S f_AP  x0).trans ((n_AY (fun (d : Int) => some (Res.mk (rI d) [] [])) x0).symm.trans hr1))

end Go.Proofs.Ytdpenjncfmkbgaa
