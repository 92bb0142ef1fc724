/-
  Contracts by plain functions: astrolabelaw9.TriSets
-/
import Derived.Test.YtmlmpcabphgfaaaT2
set_option maxRecDepth 100000
set_option maxHeartbeats 4000000
set_option linter.unusedVariables false
namespace Go.Proofs.Ytmlmpcabphgfaaa
open Go.Ab
def S_astrolabelaw9_TriSets_0 {ρ : Type} (g_astrolabelaw9_awake : Option Bool) (g_tri_Set : (Nat → Int) → (Nat → Int) → Int → Int → Int → Option ((Nat → Int) × (Nat → Int))) (g_tri_U : (Nat → Int) → (Nat → Int) → Int → Int → Option Int) (g_tri_Condition : (Nat → Int) → (Nat → Int) → Bool → Option ((Nat → Int) × (Nat → Int) × Bool)) (g_tri_At : (Nat → Int) → (Nat → Int) → Int → Int → Bool → Option (Int × Bool))  (x0 : Int) (x1 : Int) (x2 : Int) (x3 : Nat → Int) (x4 : Nat → Int) (c : (Int × Int × Int × (Nat → Int) × (Nat → Int)) → Option ρ) (x : (Bool) → Option ρ) : Option ρ :=
  Option.bind (g_tri_At x3 x4 x0 x1 false) fun (d : Int × Bool) => bif d.1 == x2 then x !d.2 else x false
section
open Go.Ab.Rdr
def Q_astrolabelaw9_TriSets_0 := (st (cons aund (cons aund (cons aund (cons aund (cons (ar (rc (cf (fi .i64 hole)))) (cons (ar (rc (cf (fi .i64 hole)))) (cons (ar (rc (cptr (nat 0) (ok' (nat 0)) (nat 300)))) (cons (atup nil) (cons aund (cons aund (cons aund (cons aund (cons aund (cons aund (cons (ar (rc (cptr (nat 1) (ok' (nat 0)) (nat 1)))) (cons (ar (rc (cf (fi .i64 hole)))) (cons aund (cons aund (cons aund (cons aund (cons aund (cons aund (cons aund (cons aund (cons aund (cons aund (cons aund (cons aund (cons aund (cons aund (cons aund (cons aund (cons aund (cons aund (cons aund (cons aund (cons aund (cons aund (cons aund (cons aund (cons aund (cons aund (cons aund (cons aund (cons aund (cons aund (cons aund (cons aund (cons aund (cons aund (cons aund (cons aund (cons aund (cons aund (cons aund (cons aund (cons aund (cons aund (cons aund (cons aund (cons aund (cons aund (cons aund (cons aund (cons aund (cons aund (cons aund (cons aund (cons aund (cons aund (cons aund (cons aund (cons aund (cons aund (cons aund (cons aund (cons aund (cons aund (cons aund (cons aund (cons aund (cons aund (cons aund (cons aund (cons aund (cons aund (cons aund (cons aund (cons aund (cons aund (cons aund (cons aund (cons aund (cons aund (cons aund (cons aund (cons aund (cons aund (cons aund (cons aund (cons aund (cons aund (cons aund (cons aund (cons aund (cons aund (cons aund (cons aund (cons aund (cons aund (cons aund (cons (atup nil) (cons (atup nil) (cons (atup nil) (cons (atup nil) (cons (atup nil) (cons aund nil))))))))))))))))))))))))))))))))))))))))))))))))))))))))))))))))))))))))))))))))))))))))))))))))))))))))))))))))))))) (cons (some' (cons (ga (szl (nat 276)) (cons (ki .i64 hole) nil)) (cons (ga (szl (nat 24)) (cons (ki .i64 hole) nil)) nil))) (cons (some' (cons (gc (cf (fb (bool false)))) nil)) nil)) nil)
end
theorem q_astrolabelaw9_TriSets_0 : ∀ b, (Q_astrolabelaw9_TriSets_0).em b = St.mk
    [AV.und, AV.und, AV.und, AV.und, AV.r (RV.c (CV.f (FV.i IntKind.i64 b.1.2.2.2.2.1))), AV.r (RV.c (CV.f (FV.i IntKind.i64 b.1.2.2.2.2.2.1))), AV.r (RV.c (CV.ptr 0 (Off.k 0) 300)), AV.tup [], AV.und, AV.und, AV.und, AV.und,
      AV.und, AV.und, AV.r (RV.c (CV.ptr 1 (Off.k 0) 1)), AV.r (RV.c (CV.f (FV.i IntKind.i64 b.1.2.2.2.2.2.2.2.2.2.2.2.2.2.2.2.1))), AV.und, AV.und, AV.und, AV.und, AV.und, AV.und, AV.und, AV.und, AV.und, AV.und, AV.und, AV.und,
      AV.und, AV.und, AV.und, AV.und, AV.und, AV.und, AV.und, AV.und, AV.und, AV.und, AV.und, AV.und, AV.und, AV.und, AV.und, AV.und, AV.und, AV.und, AV.und, AV.und, AV.und, AV.und, AV.und, AV.und,
      AV.und, AV.und, AV.und, AV.und, AV.und, AV.und, AV.und, AV.und, AV.und, AV.und, AV.und, AV.und, AV.und, AV.und, AV.und, AV.und, AV.und, AV.und, AV.und, AV.und, AV.und, AV.und, AV.und, AV.und,
      AV.und, AV.und, AV.und, AV.und, AV.und, AV.und, AV.und, AV.und, AV.und, AV.und, AV.und, AV.und, AV.und, AV.und, AV.und, AV.und, AV.und, AV.und, AV.und, AV.und, AV.und, AV.und, AV.und, AV.und,
      AV.und, AV.und, AV.und, AV.und, AV.und, AV.und, AV.und, AV.und, AV.und, AV.und, AV.und, AV.tup [], AV.tup [], AV.tup [], AV.tup [], AV.tup [], AV.und]
    [some [Sg.a (Sz.l 276) [Col.i IntKind.i64 b.2.1.1.1.2.1], Sg.a (Sz.l 24) [Col.i IntKind.i64 b.2.1.1.2.1.2.1]], some [Sg.c (CV.f (FV.b false))]] [] := fun b => by kernel_rfl
def R_astrolabelaw9_TriSets_0 (l : ∀ {ρ : Type}, (Int × Int × Int × (Nat → Int) × (Nat → Int)) → ((Bool) → Option ρ) → Option ρ) {ρ : Type} (s : St) (K : AX → St → Option ρ) : Option ρ := ((Q_astrolabelaw9_TriSets_0).rd s).bind fun b => l (b.1.2.2.2.2.1, b.1.2.2.2.2.2.1, b.1.2.2.2.2.2.2.2.2.2.2.2.2.2.2.2.1, b.2.1.1.1.2.1, b.2.1.1.2.1.2.1) (fun d => K (AX.ret) (St.mk
  [AV.und, AV.und, AV.und, AV.und, AV.und, AV.und, AV.und, AV.und, AV.und, AV.und, AV.und, AV.und, AV.r (RV.c (CV.f (FV.b d))), AV.und, AV.und, AV.und, AV.und, AV.und, AV.und, AV.und, AV.und, AV.und,
    AV.und, AV.und, AV.und, AV.und, AV.und, AV.und, AV.und, AV.und, AV.und, AV.und, AV.und, AV.und, AV.und, AV.und, AV.und, AV.und, AV.und, AV.und, AV.und, AV.und, AV.und, AV.und, AV.und, AV.und,
    AV.und, AV.und, AV.und, AV.und, AV.und, AV.und, AV.und, AV.und, AV.und, AV.und, AV.und, AV.und, AV.und, AV.und, AV.und, AV.und, AV.und, AV.und, AV.und, AV.und, AV.und, AV.und, AV.und, AV.und,
    AV.und, AV.und, AV.und, AV.und, AV.und, AV.und, AV.und, AV.und, AV.und, AV.und, AV.und, AV.und, AV.und, AV.und, AV.und, AV.und, AV.und, AV.und, AV.und, AV.und, AV.und, AV.und, AV.und, AV.und,
    AV.und, AV.und, AV.und, AV.und, AV.und, AV.und, AV.und, AV.und, AV.und, AV.und, AV.und, AV.und, AV.und, AV.und, AV.und, AV.und, AV.und, AV.und, AV.und, AV.und, AV.und, AV.und, AV.und]
  [] []))
theorem ms_astrolabelaw9_TriSets_0 {ρ σ : Type} (g_astrolabelaw9_awake : Option Bool) (g_tri_Set : (Nat → Int) → (Nat → Int) → Int → Int → Int → Option ((Nat → Int) × (Nat → Int))) (g_tri_U : (Nat → Int) → (Nat → Int) → Int → Int → Option Int) (g_tri_Condition : (Nat → Int) → (Nat → Int) → Bool → Option ((Nat → Int) × (Nat → Int) × Bool)) (g_tri_At : (Nat → Int) → (Nat → Int) → Int → Int → Bool → Option (Int × Bool))   (q : ρ → Option σ) (x0 : Int) (x1 : Int) (x2 : Int) (x3 : Nat → Int) (x4 : Nat → Int) (c : (Int × Int × Int × (Nat → Int) × (Nat → Int)) → Option ρ) (x : (Bool) → Option ρ) : (S_astrolabelaw9_TriSets_0 g_astrolabelaw9_awake g_tri_Set g_tri_U g_tri_Condition g_tri_At  x0 x1 x2 x3 x4 c x).bind q = S_astrolabelaw9_TriSets_0 g_astrolabelaw9_awake g_tri_Set g_tri_U g_tri_Condition g_tri_At  x0 x1 x2 x3 x4 (fun d => (c d).bind q) (fun d => (x d).bind q) := by
  simp only [S_astrolabelaw9_TriSets_0, bnd_cond, bnd_bind, bnd_none, bnd_sum]
def L_astrolabelaw9_TriSets_0 {ρ : Type} (d : Int × Int × Int × (Nat → Int) × (Nat → Int)) (k : (Bool) → Option ρ) : Option ρ := S_astrolabelaw9_TriSets_0 f_astrolabelaw9_awake f_tri_Set f_tri_U f_tri_Condition f_tri_At  d.1 d.2.1 d.2.2.1 d.2.2.2.1 d.2.2.2.2 (fun _ => none) k
theorem mL_astrolabelaw9_TriSets_0 {ρ σ : Type} (q : ρ → Option σ) (d : Int × Int × Int × (Nat → Int) × (Nat → Int)) (k : (Bool) → Option ρ) : (L_astrolabelaw9_TriSets_0 d k).bind q = L_astrolabelaw9_TriSets_0 d fun x => (k x).bind q :=
  ms_astrolabelaw9_TriSets_0 f_astrolabelaw9_awake f_tri_Set f_tri_U f_tri_Condition f_tri_At   q d.1 d.2.1 d.2.2.1 d.2.2.2.1 d.2.2.2.2 (fun _ => none) k
theorem ds_astrolabelaw9_TriSets_0 {ρ : Type} (g_astrolabelaw9_awake : Option Bool) (g_tri_Set : (Nat → Int) → (Nat → Int) → Int → Int → Int → Option ((Nat → Int) × (Nat → Int))) (g_tri_U : (Nat → Int) → (Nat → Int) → Int → Int → Option Int) (g_tri_Condition : (Nat → Int) → (Nat → Int) → Bool → Option ((Nat → Int) × (Nat → Int) × Bool)) (g_tri_At : (Nat → Int) → (Nat → Int) → Int → Int → Bool → Option (Int × Bool)) (l_0 : ∀ {ρ : Type}, (Int × Int × Int × (Nat → Int) × (Nat → Int)) → ((Bool) → Option ρ) → Option ρ) (x0 : Int) (x1 : Int) (x2 : Int) (x3 : Nat → Int) (x4 : Nat → Int) (K : AX → St → Option ρ) :
    runC Try.prog (envOf [(39, F_astrolabelaw9_awake g_astrolabelaw9_awake), (43, F_tri_Set g_tri_Set), (42, F_tri_U g_tri_U), (48, F_tri_Condition g_tri_Condition), (46, F_tri_At g_tri_At)]) ⟨[], [], [], [⟨⟨15, [0, 1, 2, 3, 8, 9, 10, 11, 12, 13, 16, 17, 18, 19, 20, 21, 22, 23, 24, 25, 26, 27, 28, 29, 30, 31, 32, 33, 34, 35, 36, 37, 38, 39, 40, 41, 42, 43, 44, 45, 46, 47, 48, 49, 50, 51, 52, 53, 54, 55, 56, 57, 58, 59, 60, 61, 62, 63, 64, 65, 66, 67, 68, 69, 70, 71, 72, 73, 74, 75, 76, 77, 78, 79, 80, 81, 82, 83, 84, 85, 86, 87, 88, 89, 90, 91, 92, 93, 94, 95, 96, 97, 98, 99, 100, 101, 102, 103, 104, 105, 106, 107, 108, 109, 110, 116], []⟩, ⟨15, 0, @R_astrolabelaw9_TriSets_0 (@l_0)⟩⟩], (some ⟨0, [0, 1, 2, 3, 4, 5, 6, 7, 8, 9, 10, 11, 13, 14, 15, 16, 17, 18, 19, 20, 21, 22, 23, 24, 25, 26, 27, 28, 29, 30, 31, 32, 33, 34, 35, 36, 37, 38, 39, 40, 41, 42, 43, 44, 45, 46, 47, 48, 49, 50, 51, 52, 53, 54, 55, 56, 57, 58, 59, 60, 61, 62, 63, 64, 65, 66, 67, 68, 69, 70, 71, 72, 73, 74, 75, 76, 77, 78, 79, 80, 81, 82, 83, 84, 85, 86, 87, 88, 89, 90, 91, 92, 93, 94, 95, 96, 97, 98, 99, 100, 101, 102, 103, 104, 105, 106, 107, 108, 109, 110, 111, 112, 113, 114, 115, 116], []⟩)⟩ (tmpsOf Try.prog 13) 0 200 (joinIn Try.prog 13 15)
      (St.mk
    [AV.und, AV.und, AV.und, AV.und, AV.r (RV.c (CV.f (FV.i IntKind.i64 x0))), AV.r (RV.c (CV.f (FV.i IntKind.i64 x1))), AV.r (RV.c (CV.ptr 0 (Off.k 0) 300)), AV.tup [], AV.und, AV.und, AV.und, AV.und,
      AV.und, AV.und, AV.r (RV.c (CV.ptr 1 (Off.k 0) 1)), AV.r (RV.c (CV.f (FV.i IntKind.i64 x2))), AV.und, AV.und, AV.und, AV.und, AV.und, AV.und, AV.und, AV.und, AV.und, AV.und, AV.und, AV.und,
      AV.und, AV.und, AV.und, AV.und, AV.und, AV.und, AV.und, AV.und, AV.und, AV.und, AV.und, AV.und, AV.und, AV.und, AV.und, AV.und, AV.und, AV.und, AV.und, AV.und, AV.und, AV.und, AV.und, AV.und,
      AV.und, AV.und, AV.und, AV.und, AV.und, AV.und, AV.und, AV.und, AV.und, AV.und, AV.und, AV.und, AV.und, AV.und, AV.und, AV.und, AV.und, AV.und, AV.und, AV.und, AV.und, AV.und, AV.und, AV.und,
      AV.und, AV.und, AV.und, AV.und, AV.und, AV.und, AV.und, AV.und, AV.und, AV.und, AV.und, AV.und, AV.und, AV.und, AV.und, AV.und, AV.und, AV.und, AV.und, AV.und, AV.und, AV.und, AV.und, AV.und,
      AV.und, AV.und, AV.und, AV.und, AV.und, AV.und, AV.und, AV.und, AV.und, AV.und, AV.und, AV.tup [], AV.tup [], AV.tup [], AV.tup [], AV.tup [], AV.und]
    [some [Sg.a (Sz.l 276) [Col.i IntKind.i64 x3], Sg.a (Sz.l 24) [Col.i IntKind.i64 x4]], some [Sg.c (CV.f (FV.b false))]] []) K =
    S_astrolabelaw9_TriSets_0 g_astrolabelaw9_awake g_tri_Set g_tri_U g_tri_Condition g_tri_At  x0 x1 x2 x3 x4 (fun _ => none) (fun d => K (AX.ret) (St.mk
  [AV.und, AV.und, AV.und, AV.und, AV.und, AV.und, AV.und, AV.und, AV.und, AV.und, AV.und, AV.und, AV.r (RV.c (CV.f (FV.b d))), AV.und, AV.und, AV.und, AV.und, AV.und, AV.und, AV.und, AV.und, AV.und,
    AV.und, AV.und, AV.und, AV.und, AV.und, AV.und, AV.und, AV.und, AV.und, AV.und, AV.und, AV.und, AV.und, AV.und, AV.und, AV.und, AV.und, AV.und, AV.und, AV.und, AV.und, AV.und, AV.und, AV.und,
    AV.und, AV.und, AV.und, AV.und, AV.und, AV.und, AV.und, AV.und, AV.und, AV.und, AV.und, AV.und, AV.und, AV.und, AV.und, AV.und, AV.und, AV.und, AV.und, AV.und, AV.und, AV.und, AV.und, AV.und,
    AV.und, AV.und, AV.und, AV.und, AV.und, AV.und, AV.und, AV.und, AV.und, AV.und, AV.und, AV.und, AV.und, AV.und, AV.und, AV.und, AV.und, AV.und, AV.und, AV.und, AV.und, AV.und, AV.und, AV.und,
    AV.und, AV.und, AV.und, AV.und, AV.und, AV.und, AV.und, AV.und, AV.und, AV.und, AV.und, AV.und, AV.und, AV.und, AV.und, AV.und, AV.und, AV.und, AV.und, AV.und, AV.und, AV.und, AV.und]
  [] [])) := by kernel_rfl
theorem so_astrolabelaw9_TriSets_0 : ∀ kk, JnOK Try.prog (envOf [(39, F_astrolabelaw9_awake f_astrolabelaw9_awake), (43, F_tri_Set f_tri_Set), (42, F_tri_U f_tri_U), (48, F_tri_Condition f_tri_Condition), (46, F_tri_At f_tri_At)]) ⟨[], [], [], [⟨⟨15, [0, 1, 2, 3, 8, 9, 10, 11, 12, 13, 16, 17, 18, 19, 20, 21, 22, 23, 24, 25, 26, 27, 28, 29, 30, 31, 32, 33, 34, 35, 36, 37, 38, 39, 40, 41, 42, 43, 44, 45, 46, 47, 48, 49, 50, 51, 52, 53, 54, 55, 56, 57, 58, 59, 60, 61, 62, 63, 64, 65, 66, 67, 68, 69, 70, 71, 72, 73, 74, 75, 76, 77, 78, 79, 80, 81, 82, 83, 84, 85, 86, 87, 88, 89, 90, 91, 92, 93, 94, 95, 96, 97, 98, 99, 100, 101, 102, 103, 104, 105, 106, 107, 108, 109, 110, 116], []⟩, ⟨15, 0, @R_astrolabelaw9_TriSets_0 (@L_astrolabelaw9_TriSets_0)⟩⟩], (some ⟨0, [0, 1, 2, 3, 4, 5, 6, 7, 8, 9, 10, 11, 13, 14, 15, 16, 17, 18, 19, 20, 21, 22, 23, 24, 25, 26, 27, 28, 29, 30, 31, 32, 33, 34, 35, 36, 37, 38, 39, 40, 41, 42, 43, 44, 45, 46, 47, 48, 49, 50, 51, 52, 53, 54, 55, 56, 57, 58, 59, 60, 61, 62, 63, 64, 65, 66, 67, 68, 69, 70, 71, 72, 73, 74, 75, 76, 77, 78, 79, 80, 81, 82, 83, 84, 85, 86, 87, 88, 89, 90, 91, 92, 93, 94, 95, 96, 97, 98, 99, 100, 101, 102, 103, 104, 105, 106, 107, 108, 109, 110, 111, 112, 113, 114, 115, 116], []⟩)⟩ (tmpsOf Try.prog 13) kk 200 (joinIn Try.prog 13 15) :=
  JnOK.of (id := 15) (k0 := 0) (hd := ⟨15, [0, 1, 2, 3, 8, 9, 10, 11, 12, 13, 16, 17, 18, 19, 20, 21, 22, 23, 24, 25, 26, 27, 28, 29, 30, 31, 32, 33, 34, 35, 36, 37, 38, 39, 40, 41, 42, 43, 44, 45, 46, 47, 48, 49, 50, 51, 52, 53, 54, 55, 56, 57, 58, 59, 60, 61, 62, 63, 64, 65, 66, 67, 68, 69, 70, 71, 72, 73, 74, 75, 76, 77, 78, 79, 80, 81, 82, 83, 84, 85, 86, 87, 88, 89, 90, 91, 92, 93, 94, 95, 96, 97, 98, 99, 100, 101, 102, 103, 104, 105, 106, 107, 108, 109, 110, 116], []⟩) (run := @R_astrolabelaw9_TriSets_0 (@L_astrolabelaw9_TriSets_0)) (by kernel_rfl) fun s K r hr => by
    unfold R_astrolabelaw9_TriSets_0 at hr
    obtain ⟨b, hb, hr1⟩ := Option.bind_eq_some_iff.1 hr
    have e := ((Q_astrolabelaw9_TriSets_0).ok s b hb).trans (q_astrolabelaw9_TriSets_0 b)
    subst e
    exact (ds_astrolabelaw9_TriSets_0 f_astrolabelaw9_awake f_tri_Set f_tri_U f_tri_Condition f_tri_At (@L_astrolabelaw9_TriSets_0) b.1.2.2.2.2.1 b.1.2.2.2.2.2.1 b.1.2.2.2.2.2.2.2.2.2.2.2.2.2.2.2.1 b.2.1.1.1.2.1 b.2.1.1.2.1.2.1 K).trans hr1
def K_astrolabelaw9_TriSets {ρ : Type} (g_astrolabelaw9_awake : Option Bool) (g_tri_Set : (Nat → Int) → (Nat → Int) → Int → Int → Int → Option ((Nat → Int) × (Nat → Int))) (g_tri_U : (Nat → Int) → (Nat → Int) → Int → Int → Option Int) (g_tri_Condition : (Nat → Int) → (Nat → Int) → Bool → Option ((Nat → Int) × (Nat → Int) × Bool)) (g_tri_At : (Nat → Int) → (Nat → Int) → Int → Int → Bool → Option (Int × Bool)) (l_0 : ∀ {ρ : Type}, (Int × Int × Int × (Nat → Int) × (Nat → Int)) → ((Bool) → Option ρ) → Option ρ) (x0 : Nat → Int) (x1 : Nat → Int) (x2 : Int) (x3 : Int) (x4 : Int) (x5 : Int) (x6 : Int) (k : (Bool) → Option ρ) : Option ρ :=
  Option.bind g_astrolabelaw9_awake fun (d : Bool) =>
    bif !d then k false
    else
      Option.bind (g_tri_Set x0 x1 x2 x3 x4) fun (d : (Nat → Int) × (Nat → Int)) =>
        bif decide (x2 ≥ 0) then
          bif decide (x2 < x3) then
            bif decide (x3 < 24) then
              Option.bind (g_tri_U d.1 d.2 x2 x3) fun (d_1 : Int) =>
                bif d_1 != x4 then k false
                else
                  bif x5 != x2 then
                    Option.bind (g_tri_U d.1 d.2 x5 x6) fun (d_2 : Int) =>
                      Option.bind (g_tri_U x0 x1 x5 x6) fun (d_3 : Int) =>
                        bif d_2 != d_3 then k false
                        else
                          bif !allN 24 fun (j : Nat) => d.2 j == x1 j then k false
                          else
                            Option.bind (g_tri_Condition (fun (x : Nat) => 0) x1 false) fun (d : (Nat → Int) × (Nat → Int) × Bool) =>
                              bif decide (x5 < 0) then Option.bind (g_tri_At d.1 d.2.1 x5 x6 false) fun (d : Int × Bool) => k (d.1 == 0)
                              else
                                bif decide (x5 > 23) then Option.bind (g_tri_At d.1 d.2.1 x5 x6 false) fun (d : Int × Bool) => k (d.1 == 0)
                                else
                                  bif decide (x6 < 0) then Option.bind (g_tri_At d.1 d.2.1 x5 x6 false) fun (d : Int × Bool) => k (d.1 == 0)
                                  else
                                    bif decide (x6 > 23) then Option.bind (g_tri_At d.1 d.2.1 x5 x6 false) fun (d : Int × Bool) => k (d.1 == 0)
                                    else
                                      bif x5 == x6 then bif inR x5 24 then l_0 (x5, x6, d.2.1 (Int.toNat x5), d.1, d.2.1) fun (d : Bool) => k d else none
                                      else l_0 (x5, x6, 0, d.1, d.2.1) fun (d : Bool) => k d
                  else
                    bif x6 != x3 then
                      Option.bind (g_tri_U d.1 d.2 x5 x6) fun (d_2 : Int) =>
                        Option.bind (g_tri_U x0 x1 x5 x6) fun (d_3 : Int) =>
                          bif d_2 != d_3 then k false
                          else
                            bif !allN 24 fun (j : Nat) => d.2 j == x1 j then k false
                            else
                              Option.bind (g_tri_Condition (fun (x : Nat) => 0) x1 false) fun (d : (Nat → Int) × (Nat → Int) × Bool) =>
                                bif decide (x5 < 0) then Option.bind (g_tri_At d.1 d.2.1 x5 x6 false) fun (d : Int × Bool) => k (d.1 == 0)
                                else
                                  bif decide (x5 > 23) then Option.bind (g_tri_At d.1 d.2.1 x5 x6 false) fun (d : Int × Bool) => k (d.1 == 0)
                                  else
                                    bif decide (x6 < 0) then Option.bind (g_tri_At d.1 d.2.1 x5 x6 false) fun (d : Int × Bool) => k (d.1 == 0)
                                    else
                                      bif decide (x6 > 23) then Option.bind (g_tri_At d.1 d.2.1 x5 x6 false) fun (d : Int × Bool) => k (d.1 == 0)
                                      else
                                        bif x5 == x6 then bif inR x5 24 then l_0 (x5, x6, d.2.1 (Int.toNat x5), d.1, d.2.1) fun (d : Bool) => k d else none
                                        else l_0 (x5, x6, 0, d.1, d.2.1) fun (d : Bool) => k d
                    else
                      bif !allN 24 fun (j : Nat) => d.2 j == x1 j then k false
                      else
                        Option.bind (g_tri_Condition (fun (x : Nat) => 0) x1 false) fun (d : (Nat → Int) × (Nat → Int) × Bool) =>
                          bif decide (x5 < 0) then Option.bind (g_tri_At d.1 d.2.1 x5 x6 false) fun (d : Int × Bool) => k (d.1 == 0)
                          else
                            bif decide (x5 > 23) then Option.bind (g_tri_At d.1 d.2.1 x5 x6 false) fun (d : Int × Bool) => k (d.1 == 0)
                            else
                              bif decide (x6 < 0) then Option.bind (g_tri_At d.1 d.2.1 x5 x6 false) fun (d : Int × Bool) => k (d.1 == 0)
                              else
                                bif decide (x6 > 23) then Option.bind (g_tri_At d.1 d.2.1 x5 x6 false) fun (d : Int × Bool) => k (d.1 == 0)
                                else
                                  bif x5 == x6 then bif inR x5 24 then l_0 (x5, x6, d.2.1 (Int.toNat x5), d.1, d.2.1) fun (d : Bool) => k d else none
                                  else l_0 (x5, x6, 0, d.1, d.2.1) fun (d : Bool) => k d
            else
              bif x5 != x2 then
                Option.bind (g_tri_U d.1 d.2 x5 x6) fun (d_1 : Int) =>
                  Option.bind (g_tri_U x0 x1 x5 x6) fun (d_2 : Int) =>
                    bif d_1 != d_2 then k false
                    else
                      bif !allN 24 fun (j : Nat) => d.2 j == x1 j then k false
                      else
                        Option.bind (g_tri_Condition (fun (x : Nat) => 0) x1 false) fun (d : (Nat → Int) × (Nat → Int) × Bool) =>
                          bif decide (x5 < 0) then Option.bind (g_tri_At d.1 d.2.1 x5 x6 false) fun (d : Int × Bool) => k (d.1 == 0)
                          else
                            bif decide (x5 > 23) then Option.bind (g_tri_At d.1 d.2.1 x5 x6 false) fun (d : Int × Bool) => k (d.1 == 0)
                            else
                              bif decide (x6 < 0) then Option.bind (g_tri_At d.1 d.2.1 x5 x6 false) fun (d : Int × Bool) => k (d.1 == 0)
                              else
                                bif decide (x6 > 23) then Option.bind (g_tri_At d.1 d.2.1 x5 x6 false) fun (d : Int × Bool) => k (d.1 == 0)
                                else
                                  bif x5 == x6 then bif inR x5 24 then l_0 (x5, x6, d.2.1 (Int.toNat x5), d.1, d.2.1) fun (d : Bool) => k d else none
                                  else l_0 (x5, x6, 0, d.1, d.2.1) fun (d : Bool) => k d
              else
                bif x6 != x3 then
                  Option.bind (g_tri_U d.1 d.2 x5 x6) fun (d_1 : Int) =>
                    Option.bind (g_tri_U x0 x1 x5 x6) fun (d_2 : Int) =>
                      bif d_1 != d_2 then k false
                      else
                        bif !allN 24 fun (j : Nat) => d.2 j == x1 j then k false
                        else
                          Option.bind (g_tri_Condition (fun (x : Nat) => 0) x1 false) fun (d : (Nat → Int) × (Nat → Int) × Bool) =>
                            bif decide (x5 < 0) then Option.bind (g_tri_At d.1 d.2.1 x5 x6 false) fun (d : Int × Bool) => k (d.1 == 0)
                            else
                              bif decide (x5 > 23) then Option.bind (g_tri_At d.1 d.2.1 x5 x6 false) fun (d : Int × Bool) => k (d.1 == 0)
                              else
                                bif decide (x6 < 0) then Option.bind (g_tri_At d.1 d.2.1 x5 x6 false) fun (d : Int × Bool) => k (d.1 == 0)
                                else
                                  bif decide (x6 > 23) then Option.bind (g_tri_At d.1 d.2.1 x5 x6 false) fun (d : Int × Bool) => k (d.1 == 0)
                                  else
                                    bif x5 == x6 then bif inR x5 24 then l_0 (x5, x6, d.2.1 (Int.toNat x5), d.1, d.2.1) fun (d : Bool) => k d else none
                                    else l_0 (x5, x6, 0, d.1, d.2.1) fun (d : Bool) => k d
                else
                  bif !allN 24 fun (j : Nat) => d.2 j == x1 j then k false
                  else
                    Option.bind (g_tri_Condition (fun (x : Nat) => 0) x1 false) fun (d : (Nat → Int) × (Nat → Int) × Bool) =>
                      bif decide (x5 < 0) then Option.bind (g_tri_At d.1 d.2.1 x5 x6 false) fun (d : Int × Bool) => k (d.1 == 0)
                      else
                        bif decide (x5 > 23) then Option.bind (g_tri_At d.1 d.2.1 x5 x6 false) fun (d : Int × Bool) => k (d.1 == 0)
                        else
                          bif decide (x6 < 0) then Option.bind (g_tri_At d.1 d.2.1 x5 x6 false) fun (d : Int × Bool) => k (d.1 == 0)
                          else
                            bif decide (x6 > 23) then Option.bind (g_tri_At d.1 d.2.1 x5 x6 false) fun (d : Int × Bool) => k (d.1 == 0)
                            else
                              bif x5 == x6 then bif inR x5 24 then l_0 (x5, x6, d.2.1 (Int.toNat x5), d.1, d.2.1) fun (d : Bool) => k d else none
                              else l_0 (x5, x6, 0, d.1, d.2.1) fun (d : Bool) => k d
          else
            bif x5 != x2 then
              Option.bind (g_tri_U d.1 d.2 x5 x6) fun (d_1 : Int) =>
                Option.bind (g_tri_U x0 x1 x5 x6) fun (d_2 : Int) =>
                  bif d_1 != d_2 then k false
                  else
                    bif !allN 24 fun (j : Nat) => d.2 j == x1 j then k false
                    else
                      Option.bind (g_tri_Condition (fun (x : Nat) => 0) x1 false) fun (d : (Nat → Int) × (Nat → Int) × Bool) =>
                        bif decide (x5 < 0) then Option.bind (g_tri_At d.1 d.2.1 x5 x6 false) fun (d : Int × Bool) => k (d.1 == 0)
                        else
                          bif decide (x5 > 23) then Option.bind (g_tri_At d.1 d.2.1 x5 x6 false) fun (d : Int × Bool) => k (d.1 == 0)
                          else
                            bif decide (x6 < 0) then Option.bind (g_tri_At d.1 d.2.1 x5 x6 false) fun (d : Int × Bool) => k (d.1 == 0)
                            else
                              bif decide (x6 > 23) then Option.bind (g_tri_At d.1 d.2.1 x5 x6 false) fun (d : Int × Bool) => k (d.1 == 0)
                              else
                                bif x5 == x6 then bif inR x5 24 then l_0 (x5, x6, d.2.1 (Int.toNat x5), d.1, d.2.1) fun (d : Bool) => k d else none
                                else l_0 (x5, x6, 0, d.1, d.2.1) fun (d : Bool) => k d
            else
              bif x6 != x3 then
                Option.bind (g_tri_U d.1 d.2 x5 x6) fun (d_1 : Int) =>
                  Option.bind (g_tri_U x0 x1 x5 x6) fun (d_2 : Int) =>
                    bif d_1 != d_2 then k false
                    else
                      bif !allN 24 fun (j : Nat) => d.2 j == x1 j then k false
                      else
                        Option.bind (g_tri_Condition (fun (x : Nat) => 0) x1 false) fun (d : (Nat → Int) × (Nat → Int) × Bool) =>
                          bif decide (x5 < 0) then Option.bind (g_tri_At d.1 d.2.1 x5 x6 false) fun (d : Int × Bool) => k (d.1 == 0)
                          else
                            bif decide (x5 > 23) then Option.bind (g_tri_At d.1 d.2.1 x5 x6 false) fun (d : Int × Bool) => k (d.1 == 0)
                            else
                              bif decide (x6 < 0) then Option.bind (g_tri_At d.1 d.2.1 x5 x6 false) fun (d : Int × Bool) => k (d.1 == 0)
                              else
                                bif decide (x6 > 23) then Option.bind (g_tri_At d.1 d.2.1 x5 x6 false) fun (d : Int × Bool) => k (d.1 == 0)
                                else
                                  bif x5 == x6 then bif inR x5 24 then l_0 (x5, x6, d.2.1 (Int.toNat x5), d.1, d.2.1) fun (d : Bool) => k d else none
                                  else l_0 (x5, x6, 0, d.1, d.2.1) fun (d : Bool) => k d
              else
                bif !allN 24 fun (j : Nat) => d.2 j == x1 j then k false
                else
                  Option.bind (g_tri_Condition (fun (x : Nat) => 0) x1 false) fun (d : (Nat → Int) × (Nat → Int) × Bool) =>
                    bif decide (x5 < 0) then Option.bind (g_tri_At d.1 d.2.1 x5 x6 false) fun (d : Int × Bool) => k (d.1 == 0)
                    else
                      bif decide (x5 > 23) then Option.bind (g_tri_At d.1 d.2.1 x5 x6 false) fun (d : Int × Bool) => k (d.1 == 0)
                      else
                        bif decide (x6 < 0) then Option.bind (g_tri_At d.1 d.2.1 x5 x6 false) fun (d : Int × Bool) => k (d.1 == 0)
                        else
                          bif decide (x6 > 23) then Option.bind (g_tri_At d.1 d.2.1 x5 x6 false) fun (d : Int × Bool) => k (d.1 == 0)
                          else
                            bif x5 == x6 then bif inR x5 24 then l_0 (x5, x6, d.2.1 (Int.toNat x5), d.1, d.2.1) fun (d : Bool) => k d else none
                            else l_0 (x5, x6, 0, d.1, d.2.1) fun (d : Bool) => k d
        else
          bif x5 != x2 then
            Option.bind (g_tri_U d.1 d.2 x5 x6) fun (d_1 : Int) =>
              Option.bind (g_tri_U x0 x1 x5 x6) fun (d_2 : Int) =>
                bif d_1 != d_2 then k false
                else
                  bif !allN 24 fun (j : Nat) => d.2 j == x1 j then k false
                  else
                    Option.bind (g_tri_Condition (fun (x : Nat) => 0) x1 false) fun (d : (Nat → Int) × (Nat → Int) × Bool) =>
                      bif decide (x5 < 0) then Option.bind (g_tri_At d.1 d.2.1 x5 x6 false) fun (d : Int × Bool) => k (d.1 == 0)
                      else
                        bif decide (x5 > 23) then Option.bind (g_tri_At d.1 d.2.1 x5 x6 false) fun (d : Int × Bool) => k (d.1 == 0)
                        else
                          bif decide (x6 < 0) then Option.bind (g_tri_At d.1 d.2.1 x5 x6 false) fun (d : Int × Bool) => k (d.1 == 0)
                          else
                            bif decide (x6 > 23) then Option.bind (g_tri_At d.1 d.2.1 x5 x6 false) fun (d : Int × Bool) => k (d.1 == 0)
                            else
                              bif x5 == x6 then bif inR x5 24 then l_0 (x5, x6, d.2.1 (Int.toNat x5), d.1, d.2.1) fun (d : Bool) => k d else none
                              else l_0 (x5, x6, 0, d.1, d.2.1) fun (d : Bool) => k d
          else
            bif x6 != x3 then
              Option.bind (g_tri_U d.1 d.2 x5 x6) fun (d_1 : Int) =>
                Option.bind (g_tri_U x0 x1 x5 x6) fun (d_2 : Int) =>
                  bif d_1 != d_2 then k false
                  else
                    bif !allN 24 fun (j : Nat) => d.2 j == x1 j then k false
                    else
                      Option.bind (g_tri_Condition (fun (x : Nat) => 0) x1 false) fun (d : (Nat → Int) × (Nat → Int) × Bool) =>
                        bif decide (x5 < 0) then Option.bind (g_tri_At d.1 d.2.1 x5 x6 false) fun (d : Int × Bool) => k (d.1 == 0)
                        else
                          bif decide (x5 > 23) then Option.bind (g_tri_At d.1 d.2.1 x5 x6 false) fun (d : Int × Bool) => k (d.1 == 0)
                          else
                            bif decide (x6 < 0) then Option.bind (g_tri_At d.1 d.2.1 x5 x6 false) fun (d : Int × Bool) => k (d.1 == 0)
                            else
                              bif decide (x6 > 23) then Option.bind (g_tri_At d.1 d.2.1 x5 x6 false) fun (d : Int × Bool) => k (d.1 == 0)
                              else
                                bif x5 == x6 then bif inR x5 24 then l_0 (x5, x6, d.2.1 (Int.toNat x5), d.1, d.2.1) fun (d : Bool) => k d else none
                                else l_0 (x5, x6, 0, d.1, d.2.1) fun (d : Bool) => k d
            else
              bif !allN 24 fun (j : Nat) => d.2 j == x1 j then k false
              else
                Option.bind (g_tri_Condition (fun (x : Nat) => 0) x1 false) fun (d : (Nat → Int) × (Nat → Int) × Bool) =>
                  bif decide (x5 < 0) then Option.bind (g_tri_At d.1 d.2.1 x5 x6 false) fun (d : Int × Bool) => k (d.1 == 0)
                  else
                    bif decide (x5 > 23) then Option.bind (g_tri_At d.1 d.2.1 x5 x6 false) fun (d : Int × Bool) => k (d.1 == 0)
                    else
                      bif decide (x6 < 0) then Option.bind (g_tri_At d.1 d.2.1 x5 x6 false) fun (d : Int × Bool) => k (d.1 == 0)
                      else
                        bif decide (x6 > 23) then Option.bind (g_tri_At d.1 d.2.1 x5 x6 false) fun (d : Int × Bool) => k (d.1 == 0)
                        else
                          bif x5 == x6 then bif inR x5 24 then l_0 (x5, x6, d.2.1 (Int.toNat x5), d.1, d.2.1) fun (d : Bool) => k d else none
                          else l_0 (x5, x6, 0, d.1, d.2.1) fun (d : Bool) => k d
def f_astrolabelaw9_TriSets (x0 : Nat → Int) (x1 : Nat → Int) (x2 : Int) (x3 : Int) (x4 : Int) (x5 : Int) (x6 : Int) : Option (Bool) := K_astrolabelaw9_TriSets f_astrolabelaw9_awake f_tri_Set f_tri_U f_tri_Condition f_tri_At (@L_astrolabelaw9_TriSets_0) x0 x1 x2 x3 x4 x5 x6 some
section
open Go.Ab.Rdr
def QA_astrolabelaw9_TriSets := ((pair (cons (ar (ra (cons (ga (szl (nat 276)) (cons (ki .i64 hole) nil)) (cons (ga (szl (nat 24)) (cons (ki .i64 hole) nil)) nil)))) (cons (ar (rc (cf (fi .i64 hole)))) (cons (ar (rc (cf (fi .i64 hole)))) (cons (ar (rc (cf (fi .i64 hole)))) (cons (ar (rc (cf (fi .i64 hole)))) (cons (ar (rc (cf (fi .i64 hole)))) nil)))))) nil) : Rdr (List AV × List Blk) _)
end
def F_astrolabelaw9_TriSets (f : (Nat → Int) → (Nat → Int) → (Int) → (Int) → (Int) → (Int) → (Int) → Option (Bool)) : Sem1 := fun args h => match (QA_astrolabelaw9_TriSets).rd (args, h) with
  | some b => .opt (f b.1.1.1.2.1 b.1.1.2.1.2.1 b.1.2.1 b.1.2.2.1 b.1.2.2.2.1 b.1.2.2.2.2.1 b.1.2.2.2.2.2.1) fun (d : Bool) => .leaf (Res.mk (AV.r (RV.c (CV.f (FV.b d)))) [] [])
  | none => .fail
theorem d_astrolabelaw9_TriSets (g_astrolabelaw9_awake : Option Bool) (g_tri_Set : (Nat → Int) → (Nat → Int) → Int → Int → Int → Option ((Nat → Int) × (Nat → Int))) (g_tri_U : (Nat → Int) → (Nat → Int) → Int → Int → Option Int) (g_tri_Condition : (Nat → Int) → (Nat → Int) → Bool → Option ((Nat → Int) × (Nat → Int) × Bool)) (g_tri_At : (Nat → Int) → (Nat → Int) → Int → Int → Bool → Option (Int × Bool)) (l_0 : ∀ {ρ : Type}, (Int × Int × Int × (Nat → Int) × (Nat → Int)) → ((Bool) → Option ρ) → Option ρ) (x0 : Nat → Int) (x1 : Nat → Int) (x2 : Int) (x3 : Int) (x4 : Int) (x5 : Int) (x6 : Int) : den Try.prog (envOf [(39, F_astrolabelaw9_awake g_astrolabelaw9_awake), (43, F_tri_Set g_tri_Set), (42, F_tri_U g_tri_U), (48, F_tri_Condition g_tri_Condition), (46, F_tri_At g_tri_At)]) ⟨[], [], [], [⟨⟨15, [0, 1, 2, 3, 8, 9, 10, 11, 12, 13, 16, 17, 18, 19, 20, 21, 22, 23, 24, 25, 26, 27, 28, 29, 30, 31, 32, 33, 34, 35, 36, 37, 38, 39, 40, 41, 42, 43, 44, 45, 46, 47, 48, 49, 50, 51, 52, 53, 54, 55, 56, 57, 58, 59, 60, 61, 62, 63, 64, 65, 66, 67, 68, 69, 70, 71, 72, 73, 74, 75, 76, 77, 78, 79, 80, 81, 82, 83, 84, 85, 86, 87, 88, 89, 90, 91, 92, 93, 94, 95, 96, 97, 98, 99, 100, 101, 102, 103, 104, 105, 106, 107, 108, 109, 110, 116], []⟩, ⟨15, 0, @R_astrolabelaw9_TriSets_0 (@l_0)⟩⟩], (some ⟨0, [0, 1, 2, 3, 4, 5, 6, 7, 8, 9, 10, 11, 13, 14, 15, 16, 17, 18, 19, 20, 21, 22, 23, 24, 25, 26, 27, 28, 29, 30, 31, 32, 33, 34, 35, 36, 37, 38, 39, 40, 41, 42, 43, 44, 45, 46, 47, 48, 49, 50, 51, 52, 53, 54, 55, 56, 57, 58, 59, 60, 61, 62, 63, 64, 65, 66, 67, 68, 69, 70, 71, 72, 73, 74, 75, 76, 77, 78, 79, 80, 81, 82, 83, 84, 85, 86, 87, 88, 89, 90, 91, 92, 93, 94, 95, 96, 97, 98, 99, 100, 101, 102, 103, 104, 105, 106, 107, 108, 109, 110, 111, 112, 113, 114, 115, 116], []⟩)⟩ 200 13 [.r (.agg [.a (.l 276) [.i .i64 x0], .a (.l 24) [.i .i64 x1]]), .r (.c (.f (.i .i64 x2))), .r (.c (.f (.i .i64 x3))), .r (.c (.f (.i .i64 x4))), .r (.c (.f (.i .i64 x5))), .r (.c (.f (.i .i64 x6)))] [] =
    K_astrolabelaw9_TriSets g_astrolabelaw9_awake g_tri_Set g_tri_U g_tri_Condition g_tri_At (@l_0) x0 x1 x2 x3 x4 x5 x6 (fun (d : Bool) => some (Res.mk (AV.r (RV.c (CV.f (FV.b d)))) [] [])) := by kernel_rfl
theorem m_astrolabelaw9_TriSets {ρ σ : Type} (q : ρ → Option σ) (g_astrolabelaw9_awake : Option Bool) (g_tri_Set : (Nat → Int) → (Nat → Int) → Int → Int → Int → Option ((Nat → Int) × (Nat → Int))) (g_tri_U : (Nat → Int) → (Nat → Int) → Int → Int → Option Int) (g_tri_Condition : (Nat → Int) → (Nat → Int) → Bool → Option ((Nat → Int) × (Nat → Int) × Bool)) (g_tri_At : (Nat → Int) → (Nat → Int) → Int → Int → Bool → Option (Int × Bool)) (l_0 : ∀ {ρ : Type}, (Int × Int × Int × (Nat → Int) × (Nat → Int)) → ((Bool) → Option ρ) → Option ρ) (hl_0 : ∀ {ρ σ : Type} (q : ρ → Option σ) (d : Int × Int × Int × (Nat → Int) × (Nat → Int)) (k : (Bool) → Option ρ), (l_0 d k).bind q = l_0 d fun x => (k x).bind q) (x0 : Nat → Int) (x1 : Nat → Int) (x2 : Int) (x3 : Int) (x4 : Int) (x5 : Int) (x6 : Int) (k : (Bool) → Option ρ) : (K_astrolabelaw9_TriSets g_astrolabelaw9_awake g_tri_Set g_tri_U g_tri_Condition g_tri_At (@l_0) x0 x1 x2 x3 x4 x5 x6 k).bind q = K_astrolabelaw9_TriSets g_astrolabelaw9_awake g_tri_Set g_tri_U g_tri_Condition g_tri_At (@l_0) x0 x1 x2 x3 x4 x5 x6 (fun d => (k d).bind q) := by
  simp only [K_astrolabelaw9_TriSets, bnd_cond, bnd_bind, bnd_none, bnd_sum, hl_0]
theorem qa_astrolabelaw9_TriSets : ∀ b, (QA_astrolabelaw9_TriSets).em b = ([.r (.agg [.a (.l 276) [.i .i64 b.1.1.1.2.1], .a (.l 24) [.i .i64 b.1.1.2.1.2.1]]), .r (.c (.f (.i .i64 b.1.2.1))), .r (.c (.f (.i .i64 b.1.2.2.1))), .r (.c (.f (.i .i64 b.1.2.2.2.1))), .r (.c (.f (.i .i64 b.1.2.2.2.2.1))), .r (.c (.f (.i .i64 b.1.2.2.2.2.2.1)))], []) := fun b => by kernel_rfl
theorem e_astrolabelaw9_TriSets {f : (Nat → Int) → (Nat → Int) → (Int) → (Int) → (Int) → (Int) → (Int) → Option (Bool)} {args : List AV} {h : List Blk} {r : Res} (hr : (F_astrolabelaw9_TriSets f args h).eval = some r) : ∃ x0 x1 x2 x3 x4 x5 x6, args = [.r (.agg [.a (.l 276) [.i .i64 x0], .a (.l 24) [.i .i64 x1]]), .r (.c (.f (.i .i64 x2))), .r (.c (.f (.i .i64 x3))), .r (.c (.f (.i .i64 x4))), .r (.c (.f (.i .i64 x5))), .r (.c (.f (.i .i64 x6)))] ∧ h = [] ∧ (f x0 x1 x2 x3 x4 x5 x6).bind (fun (d : Bool) => some (Res.mk (AV.r (RV.c (CV.f (FV.b d)))) [] [])) = some r := by
  unfold F_astrolabelaw9_TriSets at hr
  split at hr
  · rename_i b hb
    have e := ((QA_astrolabelaw9_TriSets).ok _ _ hb).trans (qa_astrolabelaw9_TriSets b)
    rw [opt_eval2] at hr
    exact ⟨b.1.1.1.2.1, b.1.1.2.1.2.1, b.1.2.1, b.1.2.2.1, b.1.2.2.2.1, b.1.2.2.2.2.1, b.1.2.2.2.2.2.1, (Prod.mk.inj e).1, (Prod.mk.inj e).2, hr⟩
  · cases hr
theorem n_astrolabelaw9_TriSets {σ : Type} (q : (Bool) → Option σ) (x0 : Nat → Int) (x1 : Nat → Int) (x2 : Int) (x3 : Int) (x4 : Int) (x5 : Int) (x6 : Int) : (f_astrolabelaw9_TriSets x0 x1 x2 x3 x4 x5 x6).bind q = K_astrolabelaw9_TriSets f_astrolabelaw9_awake f_tri_Set f_tri_U f_tri_Condition f_tri_At (@L_astrolabelaw9_TriSets_0) x0 x1 x2 x3 x4 x5 x6 q := by
  unfold f_astrolabelaw9_TriSets
  exact m_astrolabelaw9_TriSets q f_astrolabelaw9_awake f_tri_Set f_tri_U f_tri_Condition f_tri_At (@L_astrolabelaw9_TriSets_0) (fun q d k => mL_astrolabelaw9_TriSets_0 q d k) x0 x1 x2 x3 x4 x5 x6 some
theorem s_astrolabelaw9_TriSets : Sound Try.prog 13 (F_astrolabelaw9_TriSets f_astrolabelaw9_TriSets) :=
  (inl_sums (l := [(39, F_astrolabelaw9_awake f_astrolabelaw9_awake), (43, F_tri_Set f_tri_Set), (42, F_tri_U f_tri_U), (48, F_tri_Condition f_tri_Condition), (46, F_tri_At f_tri_At)]) (.cons s_astrolabelaw9_awake (.cons s_tri_Set (.cons s_tri_U (.cons s_tri_Condition (.cons s_tri_At (.nil _)))))) mixed (hs := ⟨[], [], [], [⟨⟨15, [0, 1, 2, 3, 8, 9, 10, 11, 12, 13, 16, 17, 18, 19, 20, 21, 22, 23, 24, 25, 26, 27, 28, 29, 30, 31, 32, 33, 34, 35, 36, 37, 38, 39, 40, 41, 42, 43, 44, 45, 46, 47, 48, 49, 50, 51, 52, 53, 54, 55, 56, 57, 58, 59, 60, 61, 62, 63, 64, 65, 66, 67, 68, 69, 70, 71, 72, 73, 74, 75, 76, 77, 78, 79, 80, 81, 82, 83, 84, 85, 86, 87, 88, 89, 90, 91, 92, 93, 94, 95, 96, 97, 98, 99, 100, 101, 102, 103, 104, 105, 106, 107, 108, 109, 110, 116], []⟩, ⟨15, 0, @R_astrolabelaw9_TriSets_0 (@L_astrolabelaw9_TriSets_0)⟩⟩], (some ⟨0, [0, 1, 2, 3, 4, 5, 6, 7, 8, 9, 10, 11, 13, 14, 15, 16, 17, 18, 19, 20, 21, 22, 23, 24, 25, 26, 27, 28, 29, 30, 31, 32, 33, 34, 35, 36, 37, 38, 39, 40, 41, 42, 43, 44, 45, 46, 47, 48, 49, 50, 51, 52, 53, 54, 55, 56, 57, 58, 59, 60, 61, 62, 63, 64, 65, 66, 67, 68, 69, 70, 71, 72, 73, 74, 75, 76, 77, 78, 79, 80, 81, 82, 83, 84, 85, 86, 87, 88, 89, 90, 91, 92, 93, 94, 95, 96, 97, 98, 99, 100, 101, 102, 103, 104, 105, 106, 107, 108, 109, 110, 111, 112, 113, 114, 115, 116], []⟩)⟩) (lf := 200) (Sums.by (l := []) (lj := [joinIn Try.prog 13 15]) (by kernel_rfl) trivial (by kernel_rfl) ⟨so_astrolabelaw9_TriSets_0, trivial⟩) (by kernel_rfl)).by (F := F_astrolabelaw9_TriSets f_astrolabelaw9_TriSets) fun args b r hr => by
  obtain ⟨x0, x1, x2, x3, x4, x5, x6, rfl, rfl, hr1⟩ := e_astrolabelaw9_TriSets hr
  exact inl_eval ((d_astrolabelaw9_TriSets f_astrolabelaw9_awake f_tri_Set f_tri_U f_tri_Condition f_tri_At (@L_astrolabelaw9_TriSets_0) x0 x1 x2 x3 x4 x5 x6).trans ((n_astrolabelaw9_TriSets (fun (d : Bool) => some (Res.mk (AV.r (RV.c (CV.f (FV.b d)))) [] [])) x0 x1 x2 x3 x4 x5 x6).symm.trans hr1))

end Go.Proofs.Ytmlmpcabphgfaaa
