/-
  Texts put together: C2 E1
-/
import Derived.Test.YtcalippagaaikaaEP1
/-
  Contracts by plain functions: math/bits.Len64, math/bits.LeadingZeros64, math/bits.Div64, wide.Div
-/
section
set_option maxRecDepth 100000
set_option maxHeartbeats 4000000
set_option linter.unusedVariables false
namespace Go.Proofs.Ytcalippagaaikaa
open Go.Ab
def S_math_bits_Len64_2 {ρ : Type}   (x0 : Int) (x1 : Int) (c : (Int × Int) → Option ρ) (x : (Int) → Option ρ) : Option ρ :=
  bif inR (IntKind.wrap IntKind.u8 x0) 256 then
    x
      (IntKind.wrap IntKind.i64
        (x1 +
          IntKind.wrap IntKind.i64
            (byteAt
              (ByteArray.mk
                (List.toArray
                  (List.append
                    (List.append
                      [0, 1, 2, 2, 3, 3, 3, 3, 4, 4, 4, 4, 4, 4, 4, 4, 5, 5, 5, 5, 5, 5, 5, 5, 5, 5, 5, 5, 5, 5, 5, 5, 6, 6, 6, 6, 6, 6, 6, 6, 6, 6, 6, 6, 6, 6, 6, 6, 6, 6, 6, 6, 6, 6, 6, 6, 6, 6, 6, 6,
                        6, 6, 6, 6]
                      [7, 7, 7, 7, 7, 7, 7, 7, 7, 7, 7, 7, 7, 7, 7, 7, 7, 7, 7, 7, 7, 7, 7, 7, 7, 7, 7, 7, 7, 7, 7, 7, 7, 7, 7, 7, 7, 7, 7, 7, 7, 7, 7, 7, 7, 7, 7, 7, 7, 7, 7, 7, 7, 7, 7, 7, 7, 7, 7, 7,
                        7, 7, 7, 7])
                    (List.append
                      [8, 8, 8, 8, 8, 8, 8, 8, 8, 8, 8, 8, 8, 8, 8, 8, 8, 8, 8, 8, 8, 8, 8, 8, 8, 8, 8, 8, 8, 8, 8, 8, 8, 8, 8, 8, 8, 8, 8, 8, 8, 8, 8, 8, 8, 8, 8, 8, 8, 8, 8, 8, 8, 8, 8, 8, 8, 8, 8, 8,
                        8, 8, 8, 8]
                      [8, 8, 8, 8, 8, 8, 8, 8, 8, 8, 8, 8, 8, 8, 8, 8, 8, 8, 8, 8, 8, 8, 8, 8, 8, 8, 8, 8, 8, 8, 8, 8, 8, 8, 8, 8, 8, 8, 8, 8, 8, 8, 8, 8, 8, 8, 8, 8, 8, 8, 8, 8, 8, 8, 8, 8, 8, 8, 8, 8,
                        8, 8, 8, 8]))))
              (Int.toNat (IntKind.wrap IntKind.u8 x0)))))
  else none
section
open Go.Ab.Rdr
def Q_math_bits_Len64_2 := (st (cons (ar (rc (cf (fi .u64 hole)))) (cons aund (cons (ar (rc (cf (fi .i64 hole)))) (cons aund (cons aund (cons aund (cons aund (cons aund (cons aund (cons aund (cons aund (cons aund (cons aund (cons aund (cons aund (cons aund (cons aund (cons aund (cons aund (cons aund (cons aund (cons aund (cons aund (cons aund (cons aund nil))))))))))))))))))))))))) nil nil)
end
theorem q_math_bits_Len64_2 : ∀ b, (Q_math_bits_Len64_2).em b = St.mk
    [AV.r (RV.c (CV.f (FV.i IntKind.u64 b.1.1))), AV.und, AV.r (RV.c (CV.f (FV.i IntKind.i64 b.1.2.2.1))), AV.und, AV.und, AV.und, AV.und, AV.und, AV.und, AV.und, AV.und, AV.und, AV.und, AV.und, AV.und, AV.und,
      AV.und, AV.und, AV.und, AV.und, AV.und, AV.und, AV.und, AV.und, AV.und]
    [] [] := fun b => by kernel_rfl
def R_math_bits_Len64_2 (l : ∀ {ρ : Type}, (Int × Int) → ((Int) → Option ρ) → Option ρ) {ρ : Type} (s : St) (K : AX → St → Option ρ) : Option ρ := ((Q_math_bits_Len64_2).rd s).bind fun b => l (b.1.1, b.1.2.2.1) (fun d => K (AX.ret) (St.mk
  [AV.und, AV.und, AV.r (RV.c (CV.f (FV.i IntKind.i64 d))), AV.und, AV.und, AV.und, AV.und, AV.und, AV.und, AV.und, AV.und, AV.und, AV.und, AV.und, AV.und, AV.und, AV.und, AV.und, AV.und, AV.und,
    AV.und, AV.und, AV.und, AV.und, AV.und]
  [] []))
theorem ms_math_bits_Len64_2 {ρ σ : Type}    (q : ρ → Option σ) (x0 : Int) (x1 : Int) (c : (Int × Int) → Option ρ) (x : (Int) → Option ρ) : (S_math_bits_Len64_2   x0 x1 c x).bind q = S_math_bits_Len64_2   x0 x1 (fun d => (c d).bind q) (fun d => (x d).bind q) := by
  simp only [S_math_bits_Len64_2, bnd_cond, bnd_bind, bnd_none, bnd_sum]
def L_math_bits_Len64_2 {ρ : Type} (d : Int × Int) (k : (Int) → Option ρ) : Option ρ := S_math_bits_Len64_2   d.1 d.2 (fun _ => none) k
theorem mL_math_bits_Len64_2 {ρ σ : Type} (q : ρ → Option σ) (d : Int × Int) (k : (Int) → Option ρ) : (L_math_bits_Len64_2 d k).bind q = L_math_bits_Len64_2 d fun x => (k x).bind q :=
  ms_math_bits_Len64_2    q d.1 d.2 (fun _ => none) k
def S_math_bits_Len64_1 {ρ : Type}  (l_2 : ∀ {ρ : Type}, (Int × Int) → ((Int) → Option ρ) → Option ρ) (x0 : Int) (x1 : Int) (c : (Int × Int) → Option ρ) (x : (Int) → Option ρ) : Option ρ :=
  bif decide (x0 ≥ 256) then l_2 (Int.fdiv x0 256, IntKind.wrap IntKind.i64 (x1 + 8)) fun (d : Int) => x d else l_2 (x0, x1) fun (d : Int) => x d
section
open Go.Ab.Rdr
def Q_math_bits_Len64_1 := (st (cons (ar (rc (cf (fi .u64 hole)))) (cons aund (cons (ar (rc (cf (fi .i64 hole)))) (cons aund (cons aund (cons aund (cons aund (cons aund (cons aund (cons aund (cons aund (cons aund (cons aund (cons aund (cons aund (cons aund (cons aund (cons aund (cons aund (cons aund (cons aund (cons aund (cons aund (cons aund (cons aund nil))))))))))))))))))))))))) nil nil)
end
theorem q_math_bits_Len64_1 : ∀ b, (Q_math_bits_Len64_1).em b = St.mk
    [AV.r (RV.c (CV.f (FV.i IntKind.u64 b.1.1))), AV.und, AV.r (RV.c (CV.f (FV.i IntKind.i64 b.1.2.2.1))), AV.und, AV.und, AV.und, AV.und, AV.und, AV.und, AV.und, AV.und, AV.und, AV.und, AV.und, AV.und, AV.und,
      AV.und, AV.und, AV.und, AV.und, AV.und, AV.und, AV.und, AV.und, AV.und]
    [] [] := fun b => by kernel_rfl
def R_math_bits_Len64_1 (l : ∀ {ρ : Type}, (Int × Int) → ((Int) → Option ρ) → Option ρ) {ρ : Type} (s : St) (K : AX → St → Option ρ) : Option ρ := ((Q_math_bits_Len64_1).rd s).bind fun b => l (b.1.1, b.1.2.2.1) (fun d => K (AX.ret) (St.mk
  [AV.und, AV.und, AV.r (RV.c (CV.f (FV.i IntKind.i64 d))), AV.und, AV.und, AV.und, AV.und, AV.und, AV.und, AV.und, AV.und, AV.und, AV.und, AV.und, AV.und, AV.und, AV.und, AV.und, AV.und, AV.und,
    AV.und, AV.und, AV.und, AV.und, AV.und]
  [] []))
theorem ms_math_bits_Len64_1 {ρ σ : Type}  (l_2 : ∀ {ρ : Type}, (Int × Int) → ((Int) → Option ρ) → Option ρ) (hl_2 : ∀ {ρ σ : Type} (q : ρ → Option σ) (d : Int × Int) (k : (Int) → Option ρ), (l_2 d k).bind q = l_2 d fun x => (k x).bind q) (q : ρ → Option σ) (x0 : Int) (x1 : Int) (c : (Int × Int) → Option ρ) (x : (Int) → Option ρ) : (S_math_bits_Len64_1  (@l_2) x0 x1 c x).bind q = S_math_bits_Len64_1  (@l_2) x0 x1 (fun d => (c d).bind q) (fun d => (x d).bind q) := by
  simp only [S_math_bits_Len64_1, bnd_cond, bnd_bind, bnd_none, bnd_sum, hl_2]
def L_math_bits_Len64_1 {ρ : Type} (d : Int × Int) (k : (Int) → Option ρ) : Option ρ := S_math_bits_Len64_1  (@L_math_bits_Len64_2) d.1 d.2 (fun _ => none) k
theorem mL_math_bits_Len64_1 {ρ σ : Type} (q : ρ → Option σ) (d : Int × Int) (k : (Int) → Option ρ) : (L_math_bits_Len64_1 d k).bind q = L_math_bits_Len64_1 d fun x => (k x).bind q :=
  ms_math_bits_Len64_1  (@L_math_bits_Len64_2) (fun q d k => mL_math_bits_Len64_2 q d k) q d.1 d.2 (fun _ => none) k
def S_math_bits_Len64_0 {ρ : Type}  (l_1 : ∀ {ρ : Type}, (Int × Int) → ((Int) → Option ρ) → Option ρ) (x0 : Int) (x1 : Int) (c : (Int × Int) → Option ρ) (x : (Int) → Option ρ) : Option ρ :=
  bif decide (x0 ≥ 65536) then l_1 (Int.fdiv x0 65536, IntKind.wrap IntKind.i64 (x1 + 16)) fun (d : Int) => x d else l_1 (x0, x1) fun (d : Int) => x d
section
open Go.Ab.Rdr
def Q_math_bits_Len64_0 := (st (cons (ar (rc (cf (fi .u64 hole)))) (cons aund (cons (ar (rc (cf (fi .i64 hole)))) (cons aund (cons aund (cons aund (cons aund (cons aund (cons aund (cons aund (cons aund (cons aund (cons aund (cons aund (cons aund (cons aund (cons aund (cons aund (cons aund (cons aund (cons aund (cons aund (cons aund (cons aund (cons aund nil))))))))))))))))))))))))) nil nil)
end
theorem q_math_bits_Len64_0 : ∀ b, (Q_math_bits_Len64_0).em b = St.mk
    [AV.r (RV.c (CV.f (FV.i IntKind.u64 b.1.1))), AV.und, AV.r (RV.c (CV.f (FV.i IntKind.i64 b.1.2.2.1))), AV.und, AV.und, AV.und, AV.und, AV.und, AV.und, AV.und, AV.und, AV.und, AV.und, AV.und, AV.und, AV.und,
      AV.und, AV.und, AV.und, AV.und, AV.und, AV.und, AV.und, AV.und, AV.und]
    [] [] := fun b => by kernel_rfl
def R_math_bits_Len64_0 (l : ∀ {ρ : Type}, (Int × Int) → ((Int) → Option ρ) → Option ρ) {ρ : Type} (s : St) (K : AX → St → Option ρ) : Option ρ := ((Q_math_bits_Len64_0).rd s).bind fun b => l (b.1.1, b.1.2.2.1) (fun d => K (AX.ret) (St.mk
  [AV.und, AV.und, AV.r (RV.c (CV.f (FV.i IntKind.i64 d))), AV.und, AV.und, AV.und, AV.und, AV.und, AV.und, AV.und, AV.und, AV.und, AV.und, AV.und, AV.und, AV.und, AV.und, AV.und, AV.und, AV.und,
    AV.und, AV.und, AV.und, AV.und, AV.und]
  [] []))
theorem ms_math_bits_Len64_0 {ρ σ : Type}  (l_1 : ∀ {ρ : Type}, (Int × Int) → ((Int) → Option ρ) → Option ρ) (hl_1 : ∀ {ρ σ : Type} (q : ρ → Option σ) (d : Int × Int) (k : (Int) → Option ρ), (l_1 d k).bind q = l_1 d fun x => (k x).bind q) (q : ρ → Option σ) (x0 : Int) (x1 : Int) (c : (Int × Int) → Option ρ) (x : (Int) → Option ρ) : (S_math_bits_Len64_0  (@l_1) x0 x1 c x).bind q = S_math_bits_Len64_0  (@l_1) x0 x1 (fun d => (c d).bind q) (fun d => (x d).bind q) := by
  simp only [S_math_bits_Len64_0, bnd_cond, bnd_bind, bnd_none, bnd_sum, hl_1]
def L_math_bits_Len64_0 {ρ : Type} (d : Int × Int) (k : (Int) → Option ρ) : Option ρ := S_math_bits_Len64_0  (@L_math_bits_Len64_1) d.1 d.2 (fun _ => none) k
theorem mL_math_bits_Len64_0 {ρ σ : Type} (q : ρ → Option σ) (d : Int × Int) (k : (Int) → Option ρ) : (L_math_bits_Len64_0 d k).bind q = L_math_bits_Len64_0 d fun x => (k x).bind q :=
  ms_math_bits_Len64_0  (@L_math_bits_Len64_1) (fun q d k => mL_math_bits_Len64_1 q d k) q d.1 d.2 (fun _ => none) k
theorem ds_math_bits_Len64_2 {ρ : Type}  (l_2 : ∀ {ρ : Type}, (Int × Int) → ((Int) → Option ρ) → Option ρ) (l_1 : ∀ {ρ : Type}, (Int × Int) → ((Int) → Option ρ) → Option ρ) (l_0 : ∀ {ρ : Type}, (Int × Int) → ((Int) → Option ρ) → Option ρ) (x0 : Int) (x1 : Int) (K : AX → St → Option ρ) :
    runC Try.prog (envOf []) ⟨[], [], [], [⟨⟨4, [1, 3, 4, 5, 6, 7, 8, 9, 10, 11, 12, 13, 14, 15, 16, 17, 18, 19, 20, 21, 22, 23, 24], []⟩, ⟨4, 0, @R_math_bits_Len64_0 (@l_0)⟩⟩, ⟨⟨7, [1, 3, 4, 5, 6, 7, 8, 9, 10, 11, 12, 13, 14, 15, 16, 17, 18, 19, 20, 21, 22, 23, 24], []⟩, ⟨7, 0, @R_math_bits_Len64_1 (@l_1)⟩⟩, ⟨⟨10, [1, 3, 4, 5, 6, 7, 8, 9, 10, 11, 12, 13, 14, 15, 16, 17, 18, 19, 20, 21, 22, 23, 24], []⟩, ⟨10, 0, @R_math_bits_Len64_2 (@l_2)⟩⟩], (some ⟨0, [0, 1, 3, 4, 5, 6, 7, 8, 9, 10, 11, 12, 13, 14, 15, 16, 17, 18, 19, 20, 21, 22, 23, 24], []⟩)⟩ (tmpsOf Try.prog 110) 0 200 (joinIn Try.prog 110 10)
      (St.mk
    [AV.r (RV.c (CV.f (FV.i IntKind.u64 x0))), AV.und, AV.r (RV.c (CV.f (FV.i IntKind.i64 x1))), AV.und, AV.und, AV.und, AV.und, AV.und, AV.und, AV.und, AV.und, AV.und, AV.und, AV.und, AV.und, AV.und,
      AV.und, AV.und, AV.und, AV.und, AV.und, AV.und, AV.und, AV.und, AV.und]
    [] []) K =
    S_math_bits_Len64_2   x0 x1 (fun _ => none) (fun d => K (AX.ret) (St.mk
  [AV.und, AV.und, AV.r (RV.c (CV.f (FV.i IntKind.i64 d))), AV.und, AV.und, AV.und, AV.und, AV.und, AV.und, AV.und, AV.und, AV.und, AV.und, AV.und, AV.und, AV.und, AV.und, AV.und, AV.und, AV.und,
    AV.und, AV.und, AV.und, AV.und, AV.und]
  [] [])) := by kernel_rfl
theorem so_math_bits_Len64_2 : ∀ kk, JnOK Try.prog (envOf []) ⟨[], [], [], [⟨⟨4, [1, 3, 4, 5, 6, 7, 8, 9, 10, 11, 12, 13, 14, 15, 16, 17, 18, 19, 20, 21, 22, 23, 24], []⟩, ⟨4, 0, @R_math_bits_Len64_0 (@L_math_bits_Len64_0)⟩⟩, ⟨⟨7, [1, 3, 4, 5, 6, 7, 8, 9, 10, 11, 12, 13, 14, 15, 16, 17, 18, 19, 20, 21, 22, 23, 24], []⟩, ⟨7, 0, @R_math_bits_Len64_1 (@L_math_bits_Len64_1)⟩⟩, ⟨⟨10, [1, 3, 4, 5, 6, 7, 8, 9, 10, 11, 12, 13, 14, 15, 16, 17, 18, 19, 20, 21, 22, 23, 24], []⟩, ⟨10, 0, @R_math_bits_Len64_2 (@L_math_bits_Len64_2)⟩⟩], (some ⟨0, [0, 1, 3, 4, 5, 6, 7, 8, 9, 10, 11, 12, 13, 14, 15, 16, 17, 18, 19, 20, 21, 22, 23, 24], []⟩)⟩ (tmpsOf Try.prog 110) kk 200 (joinIn Try.prog 110 10) :=
  JnOK.of (id := 10) (k0 := 0) (hd := ⟨10, [1, 3, 4, 5, 6, 7, 8, 9, 10, 11, 12, 13, 14, 15, 16, 17, 18, 19, 20, 21, 22, 23, 24], []⟩) (run := @R_math_bits_Len64_2 (@L_math_bits_Len64_2)) (by kernel_rfl) fun s K r hr => by
    unfold R_math_bits_Len64_2 at hr
    obtain ⟨b, hb, hr1⟩ := Option.bind_eq_some_iff.1 hr
    have e := ((Q_math_bits_Len64_2).ok s b hb).trans (q_math_bits_Len64_2 b)
    subst e
    exact (ds_math_bits_Len64_2  (@L_math_bits_Len64_2) (@L_math_bits_Len64_1) (@L_math_bits_Len64_0) b.1.1 b.1.2.2.1 K).trans hr1
theorem ds_math_bits_Len64_1 {ρ : Type}  (l_2 : ∀ {ρ : Type}, (Int × Int) → ((Int) → Option ρ) → Option ρ) (l_1 : ∀ {ρ : Type}, (Int × Int) → ((Int) → Option ρ) → Option ρ) (l_0 : ∀ {ρ : Type}, (Int × Int) → ((Int) → Option ρ) → Option ρ) (x0 : Int) (x1 : Int) (K : AX → St → Option ρ) :
    runC Try.prog (envOf []) ⟨[], [], [], [⟨⟨4, [1, 3, 4, 5, 6, 7, 8, 9, 10, 11, 12, 13, 14, 15, 16, 17, 18, 19, 20, 21, 22, 23, 24], []⟩, ⟨4, 0, @R_math_bits_Len64_0 (@l_0)⟩⟩, ⟨⟨7, [1, 3, 4, 5, 6, 7, 8, 9, 10, 11, 12, 13, 14, 15, 16, 17, 18, 19, 20, 21, 22, 23, 24], []⟩, ⟨7, 0, @R_math_bits_Len64_1 (@l_1)⟩⟩, ⟨⟨10, [1, 3, 4, 5, 6, 7, 8, 9, 10, 11, 12, 13, 14, 15, 16, 17, 18, 19, 20, 21, 22, 23, 24], []⟩, ⟨10, 0, @R_math_bits_Len64_2 (@l_2)⟩⟩], (some ⟨0, [0, 1, 3, 4, 5, 6, 7, 8, 9, 10, 11, 12, 13, 14, 15, 16, 17, 18, 19, 20, 21, 22, 23, 24], []⟩)⟩ (tmpsOf Try.prog 110) 0 200 (joinIn Try.prog 110 7)
      (St.mk
    [AV.r (RV.c (CV.f (FV.i IntKind.u64 x0))), AV.und, AV.r (RV.c (CV.f (FV.i IntKind.i64 x1))), AV.und, AV.und, AV.und, AV.und, AV.und, AV.und, AV.und, AV.und, AV.und, AV.und, AV.und, AV.und, AV.und,
      AV.und, AV.und, AV.und, AV.und, AV.und, AV.und, AV.und, AV.und, AV.und]
    [] []) K =
    S_math_bits_Len64_1  (@l_2) x0 x1 (fun _ => none) (fun d => K (AX.ret) (St.mk
  [AV.und, AV.und, AV.r (RV.c (CV.f (FV.i IntKind.i64 d))), AV.und, AV.und, AV.und, AV.und, AV.und, AV.und, AV.und, AV.und, AV.und, AV.und, AV.und, AV.und, AV.und, AV.und, AV.und, AV.und, AV.und,
    AV.und, AV.und, AV.und, AV.und, AV.und]
  [] [])) := by kernel_rfl
theorem so_math_bits_Len64_1 : ∀ kk, JnOK Try.prog (envOf []) ⟨[], [], [], [⟨⟨4, [1, 3, 4, 5, 6, 7, 8, 9, 10, 11, 12, 13, 14, 15, 16, 17, 18, 19, 20, 21, 22, 23, 24], []⟩, ⟨4, 0, @R_math_bits_Len64_0 (@L_math_bits_Len64_0)⟩⟩, ⟨⟨7, [1, 3, 4, 5, 6, 7, 8, 9, 10, 11, 12, 13, 14, 15, 16, 17, 18, 19, 20, 21, 22, 23, 24], []⟩, ⟨7, 0, @R_math_bits_Len64_1 (@L_math_bits_Len64_1)⟩⟩, ⟨⟨10, [1, 3, 4, 5, 6, 7, 8, 9, 10, 11, 12, 13, 14, 15, 16, 17, 18, 19, 20, 21, 22, 23, 24], []⟩, ⟨10, 0, @R_math_bits_Len64_2 (@L_math_bits_Len64_2)⟩⟩], (some ⟨0, [0, 1, 3, 4, 5, 6, 7, 8, 9, 10, 11, 12, 13, 14, 15, 16, 17, 18, 19, 20, 21, 22, 23, 24], []⟩)⟩ (tmpsOf Try.prog 110) kk 200 (joinIn Try.prog 110 7) :=
  JnOK.of (id := 7) (k0 := 0) (hd := ⟨7, [1, 3, 4, 5, 6, 7, 8, 9, 10, 11, 12, 13, 14, 15, 16, 17, 18, 19, 20, 21, 22, 23, 24], []⟩) (run := @R_math_bits_Len64_1 (@L_math_bits_Len64_1)) (by kernel_rfl) fun s K r hr => by
    unfold R_math_bits_Len64_1 at hr
    obtain ⟨b, hb, hr1⟩ := Option.bind_eq_some_iff.1 hr
    have e := ((Q_math_bits_Len64_1).ok s b hb).trans (q_math_bits_Len64_1 b)
    subst e
    exact (ds_math_bits_Len64_1  (@L_math_bits_Len64_2) (@L_math_bits_Len64_1) (@L_math_bits_Len64_0) b.1.1 b.1.2.2.1 K).trans hr1
theorem ds_math_bits_Len64_0 {ρ : Type}  (l_2 : ∀ {ρ : Type}, (Int × Int) → ((Int) → Option ρ) → Option ρ) (l_1 : ∀ {ρ : Type}, (Int × Int) → ((Int) → Option ρ) → Option ρ) (l_0 : ∀ {ρ : Type}, (Int × Int) → ((Int) → Option ρ) → Option ρ) (x0 : Int) (x1 : Int) (K : AX → St → Option ρ) :
    runC Try.prog (envOf []) ⟨[], [], [], [⟨⟨4, [1, 3, 4, 5, 6, 7, 8, 9, 10, 11, 12, 13, 14, 15, 16, 17, 18, 19, 20, 21, 22, 23, 24], []⟩, ⟨4, 0, @R_math_bits_Len64_0 (@l_0)⟩⟩, ⟨⟨7, [1, 3, 4, 5, 6, 7, 8, 9, 10, 11, 12, 13, 14, 15, 16, 17, 18, 19, 20, 21, 22, 23, 24], []⟩, ⟨7, 0, @R_math_bits_Len64_1 (@l_1)⟩⟩, ⟨⟨10, [1, 3, 4, 5, 6, 7, 8, 9, 10, 11, 12, 13, 14, 15, 16, 17, 18, 19, 20, 21, 22, 23, 24], []⟩, ⟨10, 0, @R_math_bits_Len64_2 (@l_2)⟩⟩], (some ⟨0, [0, 1, 3, 4, 5, 6, 7, 8, 9, 10, 11, 12, 13, 14, 15, 16, 17, 18, 19, 20, 21, 22, 23, 24], []⟩)⟩ (tmpsOf Try.prog 110) 0 200 (joinIn Try.prog 110 4)
      (St.mk
    [AV.r (RV.c (CV.f (FV.i IntKind.u64 x0))), AV.und, AV.r (RV.c (CV.f (FV.i IntKind.i64 x1))), AV.und, AV.und, AV.und, AV.und, AV.und, AV.und, AV.und, AV.und, AV.und, AV.und, AV.und, AV.und, AV.und,
      AV.und, AV.und, AV.und, AV.und, AV.und, AV.und, AV.und, AV.und, AV.und]
    [] []) K =
    S_math_bits_Len64_0  (@l_1) x0 x1 (fun _ => none) (fun d => K (AX.ret) (St.mk
  [AV.und, AV.und, AV.r (RV.c (CV.f (FV.i IntKind.i64 d))), AV.und, AV.und, AV.und, AV.und, AV.und, AV.und, AV.und, AV.und, AV.und, AV.und, AV.und, AV.und, AV.und, AV.und, AV.und, AV.und, AV.und,
    AV.und, AV.und, AV.und, AV.und, AV.und]
  [] [])) := by kernel_rfl
theorem so_math_bits_Len64_0 : ∀ kk, JnOK Try.prog (envOf []) ⟨[], [], [], [⟨⟨4, [1, 3, 4, 5, 6, 7, 8, 9, 10, 11, 12, 13, 14, 15, 16, 17, 18, 19, 20, 21, 22, 23, 24], []⟩, ⟨4, 0, @R_math_bits_Len64_0 (@L_math_bits_Len64_0)⟩⟩, ⟨⟨7, [1, 3, 4, 5, 6, 7, 8, 9, 10, 11, 12, 13, 14, 15, 16, 17, 18, 19, 20, 21, 22, 23, 24], []⟩, ⟨7, 0, @R_math_bits_Len64_1 (@L_math_bits_Len64_1)⟩⟩, ⟨⟨10, [1, 3, 4, 5, 6, 7, 8, 9, 10, 11, 12, 13, 14, 15, 16, 17, 18, 19, 20, 21, 22, 23, 24], []⟩, ⟨10, 0, @R_math_bits_Len64_2 (@L_math_bits_Len64_2)⟩⟩], (some ⟨0, [0, 1, 3, 4, 5, 6, 7, 8, 9, 10, 11, 12, 13, 14, 15, 16, 17, 18, 19, 20, 21, 22, 23, 24], []⟩)⟩ (tmpsOf Try.prog 110) kk 200 (joinIn Try.prog 110 4) :=
  JnOK.of (id := 4) (k0 := 0) (hd := ⟨4, [1, 3, 4, 5, 6, 7, 8, 9, 10, 11, 12, 13, 14, 15, 16, 17, 18, 19, 20, 21, 22, 23, 24], []⟩) (run := @R_math_bits_Len64_0 (@L_math_bits_Len64_0)) (by kernel_rfl) fun s K r hr => by
    unfold R_math_bits_Len64_0 at hr
    obtain ⟨b, hb, hr1⟩ := Option.bind_eq_some_iff.1 hr
    have e := ((Q_math_bits_Len64_0).ok s b hb).trans (q_math_bits_Len64_0 b)
    subst e
    exact (ds_math_bits_Len64_0  (@L_math_bits_Len64_2) (@L_math_bits_Len64_1) (@L_math_bits_Len64_0) b.1.1 b.1.2.2.1 K).trans hr1
def K_math_bits_Len64 {ρ : Type}  (l_2 : ∀ {ρ : Type}, (Int × Int) → ((Int) → Option ρ) → Option ρ) (l_1 : ∀ {ρ : Type}, (Int × Int) → ((Int) → Option ρ) → Option ρ) (l_0 : ∀ {ρ : Type}, (Int × Int) → ((Int) → Option ρ) → Option ρ) (x0 : Int) (k : (Int) → Option ρ) : Option ρ :=
  bif decide (x0 ≥ 4294967296) then l_0 (Int.fdiv x0 4294967296, 32) fun (d : Int) => k d else l_0 (x0, 0) fun (d : Int) => k d
def f_math_bits_Len64 (x0 : Int) : Option (Int) := K_math_bits_Len64  (@L_math_bits_Len64_2) (@L_math_bits_Len64_1) (@L_math_bits_Len64_0) x0 some
section
open Go.Ab.Rdr
def QA_math_bits_Len64 := ((pair (cons (ar (rc (cf (fi .u64 hole)))) nil) nil) : Rdr (List AV × List Blk) _)
end
def F_math_bits_Len64 (f : (Int) → Option (Int)) : Sem1 := fun args h => match (QA_math_bits_Len64).rd (args, h) with
  | some b => .opt (f b.1.1) fun (d : Int) => .leaf (Res.mk (AV.r (RV.c (CV.f (FV.i IntKind.i64 d)))) [] [])
  | none => .fail
theorem d_math_bits_Len64  (l_2 : ∀ {ρ : Type}, (Int × Int) → ((Int) → Option ρ) → Option ρ) (l_1 : ∀ {ρ : Type}, (Int × Int) → ((Int) → Option ρ) → Option ρ) (l_0 : ∀ {ρ : Type}, (Int × Int) → ((Int) → Option ρ) → Option ρ) (x0 : Int) : den Try.prog (envOf []) ⟨[], [], [], [⟨⟨4, [1, 3, 4, 5, 6, 7, 8, 9, 10, 11, 12, 13, 14, 15, 16, 17, 18, 19, 20, 21, 22, 23, 24], []⟩, ⟨4, 0, @R_math_bits_Len64_0 (@l_0)⟩⟩, ⟨⟨7, [1, 3, 4, 5, 6, 7, 8, 9, 10, 11, 12, 13, 14, 15, 16, 17, 18, 19, 20, 21, 22, 23, 24], []⟩, ⟨7, 0, @R_math_bits_Len64_1 (@l_1)⟩⟩, ⟨⟨10, [1, 3, 4, 5, 6, 7, 8, 9, 10, 11, 12, 13, 14, 15, 16, 17, 18, 19, 20, 21, 22, 23, 24], []⟩, ⟨10, 0, @R_math_bits_Len64_2 (@l_2)⟩⟩], (some ⟨0, [0, 1, 3, 4, 5, 6, 7, 8, 9, 10, 11, 12, 13, 14, 15, 16, 17, 18, 19, 20, 21, 22, 23, 24], []⟩)⟩ 200 110 [.r (.c (.f (.i .u64 x0)))] [] =
    K_math_bits_Len64  (@l_2) (@l_1) (@l_0) x0 (fun (d : Int) => some (Res.mk (AV.r (RV.c (CV.f (FV.i IntKind.i64 d)))) [] [])) := by kernel_rfl
theorem m_math_bits_Len64 {ρ σ : Type} (q : ρ → Option σ)  (l_2 : ∀ {ρ : Type}, (Int × Int) → ((Int) → Option ρ) → Option ρ) (l_1 : ∀ {ρ : Type}, (Int × Int) → ((Int) → Option ρ) → Option ρ) (l_0 : ∀ {ρ : Type}, (Int × Int) → ((Int) → Option ρ) → Option ρ) (hl_2 : ∀ {ρ σ : Type} (q : ρ → Option σ) (d : Int × Int) (k : (Int) → Option ρ), (l_2 d k).bind q = l_2 d fun x => (k x).bind q) (hl_1 : ∀ {ρ σ : Type} (q : ρ → Option σ) (d : Int × Int) (k : (Int) → Option ρ), (l_1 d k).bind q = l_1 d fun x => (k x).bind q) (hl_0 : ∀ {ρ σ : Type} (q : ρ → Option σ) (d : Int × Int) (k : (Int) → Option ρ), (l_0 d k).bind q = l_0 d fun x => (k x).bind q) (x0 : Int) (k : (Int) → Option ρ) : (K_math_bits_Len64  (@l_2) (@l_1) (@l_0) x0 k).bind q = K_math_bits_Len64  (@l_2) (@l_1) (@l_0) x0 (fun d => (k d).bind q) := by
  simp only [K_math_bits_Len64, bnd_cond, bnd_bind, bnd_none, bnd_sum, hl_2, hl_1, hl_0]
theorem qa_math_bits_Len64 : ∀ b, (QA_math_bits_Len64).em b = ([.r (.c (.f (.i .u64 b.1.1)))], []) := fun b => by kernel_rfl
theorem e_math_bits_Len64 {f : (Int) → Option (Int)} {args : List AV} {h : List Blk} {r : Res} (hr : (F_math_bits_Len64 f args h).eval = some r) : ∃ x0, args = [.r (.c (.f (.i .u64 x0)))] ∧ h = [] ∧ (f x0).bind (fun (d : Int) => some (Res.mk (AV.r (RV.c (CV.f (FV.i IntKind.i64 d)))) [] [])) = some r := by
  unfold F_math_bits_Len64 at hr
  split at hr
  · rename_i b hb
    have e := ((QA_math_bits_Len64).ok _ _ hb).trans (qa_math_bits_Len64 b)
    rw [opt_eval2] at hr
    exact ⟨b.1.1, (Prod.mk.inj e).1, (Prod.mk.inj e).2, hr⟩
  · cases hr
theorem n_math_bits_Len64 {σ : Type} (q : (Int) → Option σ) (x0 : Int) : (f_math_bits_Len64 x0).bind q = K_math_bits_Len64  (@L_math_bits_Len64_2) (@L_math_bits_Len64_1) (@L_math_bits_Len64_0) x0 q := by
  unfold f_math_bits_Len64
  exact m_math_bits_Len64 q  (@L_math_bits_Len64_2) (@L_math_bits_Len64_1) (@L_math_bits_Len64_0) (fun q d k => mL_math_bits_Len64_2 q d k) (fun q d k => mL_math_bits_Len64_1 q d k) (fun q d k => mL_math_bits_Len64_0 q d k) x0 some
theorem s_math_bits_Len64 : Sound Try.prog 110 (F_math_bits_Len64 f_math_bits_Len64) :=
  (inl_sums (l := []) (.nil _) mixed (hs := ⟨[], [], [], [⟨⟨4, [1, 3, 4, 5, 6, 7, 8, 9, 10, 11, 12, 13, 14, 15, 16, 17, 18, 19, 20, 21, 22, 23, 24], []⟩, ⟨4, 0, @R_math_bits_Len64_0 (@L_math_bits_Len64_0)⟩⟩, ⟨⟨7, [1, 3, 4, 5, 6, 7, 8, 9, 10, 11, 12, 13, 14, 15, 16, 17, 18, 19, 20, 21, 22, 23, 24], []⟩, ⟨7, 0, @R_math_bits_Len64_1 (@L_math_bits_Len64_1)⟩⟩, ⟨⟨10, [1, 3, 4, 5, 6, 7, 8, 9, 10, 11, 12, 13, 14, 15, 16, 17, 18, 19, 20, 21, 22, 23, 24], []⟩, ⟨10, 0, @R_math_bits_Len64_2 (@L_math_bits_Len64_2)⟩⟩], (some ⟨0, [0, 1, 3, 4, 5, 6, 7, 8, 9, 10, 11, 12, 13, 14, 15, 16, 17, 18, 19, 20, 21, 22, 23, 24], []⟩)⟩) (lf := 200) (Sums.by (l := []) (lj := [joinIn Try.prog 110 4, joinIn Try.prog 110 7, joinIn Try.prog 110 10]) (by kernel_rfl) trivial (by kernel_rfl) ⟨so_math_bits_Len64_0, ⟨so_math_bits_Len64_1, ⟨so_math_bits_Len64_2, trivial⟩⟩⟩) (by kernel_rfl)).by (F := F_math_bits_Len64 f_math_bits_Len64) fun args b r hr => by
  obtain ⟨x0, rfl, rfl, hr1⟩ := e_math_bits_Len64 hr
  exact inl_eval ((d_math_bits_Len64  (@L_math_bits_Len64_2) (@L_math_bits_Len64_1) (@L_math_bits_Len64_0) x0).trans ((n_math_bits_Len64 (fun (d : Int) => some (Res.mk (AV.r (RV.c (CV.f (FV.i IntKind.i64 d)))) [] [])) x0).symm.trans hr1))

def K_math_bits_LeadingZeros64 {ρ : Type} (g_math_bits_Len64 : Int → Option Int)  (x0 : Int) (k : (Int) → Option ρ) : Option ρ :=
  Option.bind (g_math_bits_Len64 x0) fun (d : Int) => k (IntKind.wrap IntKind.i64 (64 - d))
def f_math_bits_LeadingZeros64 (x0 : Int) : Option (Int) := K_math_bits_LeadingZeros64 f_math_bits_Len64  x0 some
section
open Go.Ab.Rdr
def QA_math_bits_LeadingZeros64 := ((pair (cons (ar (rc (cf (fi .u64 hole)))) nil) nil) : Rdr (List AV × List Blk) _)
end
def F_math_bits_LeadingZeros64 (f : (Int) → Option (Int)) : Sem1 := fun args h => match (QA_math_bits_LeadingZeros64).rd (args, h) with
  | some b => .opt (f b.1.1) fun (d : Int) => .leaf (Res.mk (AV.r (RV.c (CV.f (FV.i IntKind.i64 d)))) [] [])
  | none => .fail
theorem d_math_bits_LeadingZeros64 (g_math_bits_Len64 : Int → Option Int)  (x0 : Int) : den Try.prog (envOf [(110, F_math_bits_Len64 g_math_bits_Len64)]) ⟨[], [], [], [], none⟩ 200 89 [.r (.c (.f (.i .u64 x0)))] [] =
    K_math_bits_LeadingZeros64 g_math_bits_Len64  x0 (fun (d : Int) => some (Res.mk (AV.r (RV.c (CV.f (FV.i IntKind.i64 d)))) [] [])) := by kernel_rfl
theorem m_math_bits_LeadingZeros64 {ρ σ : Type} (q : ρ → Option σ) (g_math_bits_Len64 : Int → Option Int)   (x0 : Int) (k : (Int) → Option ρ) : (K_math_bits_LeadingZeros64 g_math_bits_Len64  x0 k).bind q = K_math_bits_LeadingZeros64 g_math_bits_Len64  x0 (fun d => (k d).bind q) := by
  simp only [K_math_bits_LeadingZeros64, bnd_cond, bnd_bind, bnd_none, bnd_sum]
theorem qa_math_bits_LeadingZeros64 : ∀ b, (QA_math_bits_LeadingZeros64).em b = ([.r (.c (.f (.i .u64 b.1.1)))], []) := fun b => by kernel_rfl
theorem e_math_bits_LeadingZeros64 {f : (Int) → Option (Int)} {args : List AV} {h : List Blk} {r : Res} (hr : (F_math_bits_LeadingZeros64 f args h).eval = some r) : ∃ x0, args = [.r (.c (.f (.i .u64 x0)))] ∧ h = [] ∧ (f x0).bind (fun (d : Int) => some (Res.mk (AV.r (RV.c (CV.f (FV.i IntKind.i64 d)))) [] [])) = some r := by
  unfold F_math_bits_LeadingZeros64 at hr
  split at hr
  · rename_i b hb
    have e := ((QA_math_bits_LeadingZeros64).ok _ _ hb).trans (qa_math_bits_LeadingZeros64 b)
    rw [opt_eval2] at hr
    exact ⟨b.1.1, (Prod.mk.inj e).1, (Prod.mk.inj e).2, hr⟩
  · cases hr
theorem n_math_bits_LeadingZeros64 {σ : Type} (q : (Int) → Option σ) (x0 : Int) : (f_math_bits_LeadingZeros64 x0).bind q = K_math_bits_LeadingZeros64 f_math_bits_Len64  x0 q := by
  unfold f_math_bits_LeadingZeros64
  exact m_math_bits_LeadingZeros64 q f_math_bits_Len64   x0 some
theorem s_math_bits_LeadingZeros64 : Sound Try.prog 89 (F_math_bits_LeadingZeros64 f_math_bits_LeadingZeros64) :=
  (inl_sound (l := [(110, F_math_bits_Len64 f_math_bits_Len64)]) (.cons s_math_bits_Len64 (.nil _)) mixed [] [] 200 (by kernel_rfl)).by (F := F_math_bits_LeadingZeros64 f_math_bits_LeadingZeros64) fun args b r hr => by
  obtain ⟨x0, rfl, rfl, hr1⟩ := e_math_bits_LeadingZeros64 hr
  exact inl_eval ((d_math_bits_LeadingZeros64 f_math_bits_Len64  x0).trans ((n_math_bits_LeadingZeros64 (fun (d : Int) => some (Res.mk (AV.r (RV.c (CV.f (FV.i IntKind.i64 d)))) [] [])) x0).symm.trans hr1))

def S_math_bits_Div64_0 {ρ : Type} (g_math_bits_LeadingZeros64 : Int → Option Int)  (x0 : Int) (x1 : Int) (x2 : Int) (x3 : Int) (x4 : Int) (x5 : Int) (x6 : Int) (x7 : Int) (x8 : Int) (c : (Int × Int × Int × Int × Int × Int × Int × Int × Int) → Option ρ) (x : (Int × Int × Int × Int × Int × Int × Int × Int × Int × Int × Bool × Int × Bool ⊕
  Int × Int × Int × Int × Int × Int × Int × Int × Int × Int × Bool × Int × Int × Int × Int × Bool × Bool ⊕ Int × Int × Int × Int × Int × Int × Int × Int × Int × Bool × Int × Int × Int × Bool) → Option ρ) : Option ρ :=
  bif decide (x7 ≥ 4294967296) then
    bif decide (IntKind.wrap IntKind.u64 (x8 + x2) ≥ 4294967296) then
      x
        (Sum.inl
          (x0, x1, x2, x3, x4, x5, x6, IntKind.wrap IntKind.u64 (x7 - 1), IntKind.wrap IntKind.u64 (x8 + x2), x7, decide (x7 ≥ 4294967296), x8, decide (IntKind.wrap IntKind.u64 (x8 + x2) ≥ 4294967296)))
    else c (x0, x1, x2, x3, x4, x5, x6, IntKind.wrap IntKind.u64 (x7 - 1), IntKind.wrap IntKind.u64 (x8 + x2))
  else
    bif decide (IntKind.wrap IntKind.u64 (x7 * x3) > IntKind.wrap IntKind.u64 (IntKind.wrap IntKind.u64 (4294967296 * x8) + x5)) then
      bif decide (IntKind.wrap IntKind.u64 (x8 + x2) ≥ 4294967296) then
        x
          (Sum.inr
            (Sum.inl
              (x0, x1, x2, x3, x4, x5, x6, IntKind.wrap IntKind.u64 (x7 - 1), IntKind.wrap IntKind.u64 (x8 + x2), x7, decide (x7 ≥ 4294967296), IntKind.wrap IntKind.u64 (x7 * x3), x8,
                IntKind.wrap IntKind.u64 (4294967296 * x8), IntKind.wrap IntKind.u64 (IntKind.wrap IntKind.u64 (4294967296 * x8) + x5),
                decide (IntKind.wrap IntKind.u64 (x7 * x3) > IntKind.wrap IntKind.u64 (IntKind.wrap IntKind.u64 (4294967296 * x8) + x5)), decide (IntKind.wrap IntKind.u64 (x8 + x2) ≥ 4294967296))))
      else c (x0, x1, x2, x3, x4, x5, x6, IntKind.wrap IntKind.u64 (x7 - 1), IntKind.wrap IntKind.u64 (x8 + x2))
    else
      x
        (Sum.inr
          (Sum.inr
            (x0, x1, x2, x3, x4, x5, x6, x7, x8, decide (x7 ≥ 4294967296), IntKind.wrap IntKind.u64 (x7 * x3), IntKind.wrap IntKind.u64 (4294967296 * x8),
              IntKind.wrap IntKind.u64 (IntKind.wrap IntKind.u64 (4294967296 * x8) + x5),
              decide (IntKind.wrap IntKind.u64 (x7 * x3) > IntKind.wrap IntKind.u64 (IntKind.wrap IntKind.u64 (4294967296 * x8) + x5)))))
section
open Go.Ab.Rdr
def Q_math_bits_Div64_0 := (st (cons aund (cons aund (cons (ar (rc (cf (fi .u64 hole)))) (cons aund (cons aund (cons aund (cons aund (cons aund (cons (ar (rc (cf (fi .u64 hole)))) (cons (ar (rc (cf (fi .u64 hole)))) (cons (ar (rc (cf (fi .u64 hole)))) (cons (ar (rc (cf (fi .u64 hole)))) (cons aund (cons (ar (rc (cf (fi .u64 hole)))) (cons (ar (rc (cf (fi .u64 hole)))) (cons (ar (rc (cf (fi .u64 hole)))) (cons (ar (rc (cf (fi .u64 hole)))) (cons aund (cons aund (cons aund (cons aund (cons aund (cons aund (cons aund (cons aund (cons aund (cons aund (cons aund (cons aund (cons aund (cons aund (cons aund (cons aund (cons aund (cons aund (cons aund (cons aund (cons aund (cons aund (cons aund (cons aund (cons aund (cons aund (cons aund (cons aund (cons aund (cons aund (cons aund (cons aund (cons aund (cons aund (cons aund (cons aund (cons aund (cons aund (cons aund (cons aund (cons aund (cons aund (cons aund (cons aund (cons aund (cons aund (cons aund (cons aund (cons aund (cons aund (cons aund (cons aund (cons aund (cons aund (cons aund (cons aund (cons aund (cons aund (cons aund (cons aund (cons aund (cons aund (cons aund (cons aund (cons aund (cons aund (cons aund (cons aund (cons aund (cons aund (cons aund (cons aund (cons aund (cons aund (cons aund (cons aund (cons aund (cons aund (cons aund (cons aund (cons aund (cons aund (cons aund (cons aund (cons aund (cons aund (cons aund (cons aund (cons (atup nil) (cons (atup nil) (cons (atup nil) (cons (atup nil) (cons (atup nil) (cons (atup nil) (cons (atup nil) (cons (atup nil) (cons aund (cons aund (cons aund (cons aund (cons aund (cons aund (cons aund (cons aund (cons aund (cons aund (cons aund (cons aund (cons aund (cons aund (cons aund (cons aund (cons aund (cons aund (cons aund (cons aund (cons aund (cons aund nil))))))))))))))))))))))))))))))))))))))))))))))))))))))))))))))))))))))))))))))))))))))))))))))))))))))))))))))))))))))))))))))))))))))) nil nil)
end
theorem q_math_bits_Div64_0 : ∀ b, (Q_math_bits_Div64_0).em b = St.mk
    [AV.und, AV.und, AV.r (RV.c (CV.f (FV.i IntKind.u64 b.1.2.2.1))), AV.und, AV.und, AV.und, AV.und, AV.und, AV.r (RV.c (CV.f (FV.i IntKind.u64 b.1.2.2.2.2.2.2.2.2.1))), AV.r (RV.c (CV.f (FV.i IntKind.u64 b.1.2.2.2.2.2.2.2.2.2.1))),
      AV.r (RV.c (CV.f (FV.i IntKind.u64 b.1.2.2.2.2.2.2.2.2.2.2.1))), AV.r (RV.c (CV.f (FV.i IntKind.u64 b.1.2.2.2.2.2.2.2.2.2.2.2.1))), AV.und, AV.r (RV.c (CV.f (FV.i IntKind.u64 b.1.2.2.2.2.2.2.2.2.2.2.2.2.2.1))), AV.r (RV.c (CV.f (FV.i IntKind.u64 b.1.2.2.2.2.2.2.2.2.2.2.2.2.2.2.1))),
      AV.r (RV.c (CV.f (FV.i IntKind.u64 b.1.2.2.2.2.2.2.2.2.2.2.2.2.2.2.2.1))), AV.r (RV.c (CV.f (FV.i IntKind.u64 b.1.2.2.2.2.2.2.2.2.2.2.2.2.2.2.2.2.1))), AV.und, AV.und, AV.und, AV.und, AV.und, AV.und, AV.und, AV.und, AV.und, AV.und, AV.und, AV.und, AV.und, AV.und,
      AV.und, AV.und, AV.und, AV.und, AV.und, AV.und, AV.und, AV.und, AV.und, AV.und, AV.und, AV.und, AV.und, AV.und, AV.und, AV.und, AV.und, AV.und, AV.und, AV.und, AV.und, AV.und, AV.und, AV.und,
      AV.und, AV.und, AV.und, AV.und, AV.und, AV.und, AV.und, AV.und, AV.und, AV.und, AV.und, AV.und, AV.und, AV.und, AV.und, AV.und, AV.und, AV.und, AV.und, AV.und, AV.und, AV.und, AV.und, AV.und,
      AV.und, AV.und, AV.und, AV.und, AV.und, AV.und, AV.und, AV.und, AV.und, AV.und, AV.und, AV.und, AV.und, AV.und, AV.und, AV.und, AV.und, AV.und, AV.und, AV.und, AV.und, AV.und, AV.und, AV.und,
      AV.und, AV.und, AV.tup [], AV.tup [], AV.tup [], AV.tup [], AV.tup [], AV.tup [], AV.tup [], AV.tup [], AV.und, AV.und, AV.und, AV.und, AV.und, AV.und, AV.und, AV.und, AV.und, AV.und, AV.und,
      AV.und, AV.und, AV.und, AV.und, AV.und, AV.und, AV.und, AV.und, AV.und, AV.und, AV.und]
    [] [] := fun b => by kernel_rfl
def R_math_bits_Div64_0 (l : ∀ {ρ : Type}, (Int × Int × Int × Int × Int × Int × Int × Int × Int) → ((Int × Int × Int × Int × Int × Int × Int × Int × Int × Int × Bool × Int × Bool ⊕
  Int × Int × Int × Int × Int × Int × Int × Int × Int × Int × Bool × Int × Int × Int × Int × Bool × Bool ⊕ Int × Int × Int × Int × Int × Int × Int × Int × Int × Bool × Int × Int × Int × Bool) → Option ρ) → Option ρ) {ρ : Type} (s : St) (K : AX → St → Option ρ) : Option ρ := ((Q_math_bits_Div64_0).rd s).bind fun b => l (b.1.2.2.1, b.1.2.2.2.2.2.2.2.2.1, b.1.2.2.2.2.2.2.2.2.2.1, b.1.2.2.2.2.2.2.2.2.2.2.1, b.1.2.2.2.2.2.2.2.2.2.2.2.1, b.1.2.2.2.2.2.2.2.2.2.2.2.2.2.1, b.1.2.2.2.2.2.2.2.2.2.2.2.2.2.2.1, b.1.2.2.2.2.2.2.2.2.2.2.2.2.2.2.2.1, b.1.2.2.2.2.2.2.2.2.2.2.2.2.2.2.2.2.1) (Sum.elim (fun d => K (AX.ex 0) (St.mk
  [AV.und, AV.und, AV.r (RV.c (CV.f (FV.i IntKind.u64 d.fst))), AV.und, AV.und, AV.und, AV.und, AV.und, AV.r (RV.c (CV.f (FV.i IntKind.u64 d.snd.fst))),
    AV.r (RV.c (CV.f (FV.i IntKind.u64 d.snd.snd.fst))), AV.r (RV.c (CV.f (FV.i IntKind.u64 d.snd.snd.snd.fst))), AV.r (RV.c (CV.f (FV.i IntKind.u64 d.snd.snd.snd.snd.fst))), AV.und,
    AV.r (RV.c (CV.f (FV.i IntKind.u64 d.snd.snd.snd.snd.snd.fst))), AV.r (RV.c (CV.f (FV.i IntKind.u64 d.snd.snd.snd.snd.snd.snd.fst))),
    AV.r (RV.c (CV.f (FV.i IntKind.u64 d.snd.snd.snd.snd.snd.snd.snd.fst))), AV.r (RV.c (CV.f (FV.i IntKind.u64 d.snd.snd.snd.snd.snd.snd.snd.snd.fst))), AV.und, AV.und, AV.und, AV.und, AV.und,
    AV.und, AV.und, AV.und, AV.und, AV.und, AV.und, AV.und, AV.und, AV.und, AV.und, AV.und, AV.und, AV.und, AV.und, AV.und, AV.und, AV.und, AV.und, AV.und, AV.und, AV.und, AV.und, AV.und, AV.und,
    AV.und, AV.und, AV.und, AV.und, AV.und, AV.und, AV.und, AV.und, AV.und, AV.und, AV.und, AV.und, AV.und, AV.und, AV.und, AV.und, AV.und, AV.und, AV.und, AV.und, AV.und,
    AV.r (RV.c (CV.f (FV.i IntKind.u64 d.snd.snd.snd.snd.snd.snd.snd.snd.snd.fst))), AV.r (RV.c (CV.f (FV.b d.snd.snd.snd.snd.snd.snd.snd.snd.snd.snd.fst))), AV.r (RV.c (CV.f (FV.b true))), AV.tup [],
    AV.tup [], AV.tup [], AV.tup [], AV.tup [], AV.tup [], AV.tup [], AV.tup [], AV.r (RV.c (CV.f (FV.b true))), AV.r (RV.c (CV.f (FV.i IntKind.u64 d.snd.snd.snd.snd.snd.snd.snd.snd.snd.fst))),
    AV.r (RV.c (CV.f (FV.i IntKind.u64 d.snd.snd.snd.snd.snd.snd.snd.fst))), AV.r (RV.c (CV.f (FV.i IntKind.u64 d.snd.snd.snd.snd.snd.snd.snd.snd.snd.snd.snd.fst))),
    AV.r (RV.c (CV.f (FV.i IntKind.u64 d.snd.snd.fst))), AV.r (RV.c (CV.f (FV.i IntKind.u64 d.snd.snd.snd.snd.snd.snd.snd.snd.fst))),
    AV.r (RV.c (CV.f (FV.i IntKind.u64 d.snd.snd.snd.snd.snd.snd.snd.snd.fst))), AV.r (RV.c (CV.f (FV.b d.snd.snd.snd.snd.snd.snd.snd.snd.snd.snd.snd.snd))), AV.und, AV.und, AV.und, AV.und, AV.und,
    AV.und, AV.und, AV.und, AV.und, AV.und, AV.und, AV.und, AV.und, AV.und, AV.und, AV.und, AV.und, AV.und, AV.und, AV.tup [], AV.tup [], AV.tup [], AV.tup [], AV.tup [], AV.tup [], AV.tup [],
    AV.tup [], AV.und, AV.und, AV.und, AV.und, AV.und, AV.und, AV.und, AV.und, AV.und, AV.und, AV.und, AV.und, AV.und, AV.und, AV.und, AV.und, AV.und, AV.und, AV.und, AV.und, AV.und, AV.und]
  [] [])) (Sum.elim (fun d => K (AX.ex 0) (St.mk
  [AV.und, AV.und, AV.r (RV.c (CV.f (FV.i IntKind.u64 d.fst))), AV.und, AV.und, AV.und, AV.und, AV.und, AV.r (RV.c (CV.f (FV.i IntKind.u64 d.snd.fst))),
    AV.r (RV.c (CV.f (FV.i IntKind.u64 d.snd.snd.fst))), AV.r (RV.c (CV.f (FV.i IntKind.u64 d.snd.snd.snd.fst))), AV.r (RV.c (CV.f (FV.i IntKind.u64 d.snd.snd.snd.snd.fst))), AV.und,
    AV.r (RV.c (CV.f (FV.i IntKind.u64 d.snd.snd.snd.snd.snd.fst))), AV.r (RV.c (CV.f (FV.i IntKind.u64 d.snd.snd.snd.snd.snd.snd.fst))),
    AV.r (RV.c (CV.f (FV.i IntKind.u64 d.snd.snd.snd.snd.snd.snd.snd.fst))), AV.r (RV.c (CV.f (FV.i IntKind.u64 d.snd.snd.snd.snd.snd.snd.snd.snd.fst))), AV.und, AV.und, AV.und, AV.und, AV.und,
    AV.und, AV.und, AV.und, AV.und, AV.und, AV.und, AV.und, AV.und, AV.und, AV.und, AV.und, AV.und, AV.und, AV.und, AV.und, AV.und, AV.und, AV.und, AV.und, AV.und, AV.und, AV.und, AV.und, AV.und,
    AV.und, AV.und, AV.und, AV.und, AV.und, AV.und, AV.und, AV.und, AV.und, AV.und, AV.und, AV.und, AV.und, AV.und, AV.und, AV.und, AV.und, AV.und, AV.und, AV.und, AV.und,
    AV.r (RV.c (CV.f (FV.i IntKind.u64 d.snd.snd.snd.snd.snd.snd.snd.snd.snd.fst))), AV.r (RV.c (CV.f (FV.b d.snd.snd.snd.snd.snd.snd.snd.snd.snd.snd.fst))), AV.r (RV.c (CV.f (FV.b false))),
    AV.r (RV.c (CV.f (FV.i IntKind.u64 d.snd.snd.snd.snd.snd.snd.snd.snd.snd.fst))), AV.r (RV.c (CV.f (FV.i IntKind.u64 d.snd.snd.snd.fst))),
    AV.r (RV.c (CV.f (FV.i IntKind.u64 d.snd.snd.snd.snd.snd.snd.snd.snd.snd.snd.snd.fst))), AV.r (RV.c (CV.f (FV.i IntKind.u64 d.snd.snd.snd.snd.snd.snd.snd.snd.snd.snd.snd.snd.fst))),
    AV.r (RV.c (CV.f (FV.i IntKind.u64 d.snd.snd.snd.snd.snd.snd.snd.snd.snd.snd.snd.snd.snd.fst))), AV.r (RV.c (CV.f (FV.i IntKind.u64 d.snd.snd.snd.snd.snd.fst))),
    AV.r (RV.c (CV.f (FV.i IntKind.u64 d.snd.snd.snd.snd.snd.snd.snd.snd.snd.snd.snd.snd.snd.snd.fst))), AV.r (RV.c (CV.f (FV.b d.snd.snd.snd.snd.snd.snd.snd.snd.snd.snd.snd.snd.snd.snd.snd.fst))),
    AV.r (RV.c (CV.f (FV.b d.snd.snd.snd.snd.snd.snd.snd.snd.snd.snd.snd.snd.snd.snd.snd.fst))), AV.r (RV.c (CV.f (FV.i IntKind.u64 d.snd.snd.snd.snd.snd.snd.snd.snd.snd.fst))),
    AV.r (RV.c (CV.f (FV.i IntKind.u64 d.snd.snd.snd.snd.snd.snd.snd.fst))), AV.r (RV.c (CV.f (FV.i IntKind.u64 d.snd.snd.snd.snd.snd.snd.snd.snd.snd.snd.snd.snd.fst))),
    AV.r (RV.c (CV.f (FV.i IntKind.u64 d.snd.snd.fst))), AV.r (RV.c (CV.f (FV.i IntKind.u64 d.snd.snd.snd.snd.snd.snd.snd.snd.fst))),
    AV.r (RV.c (CV.f (FV.i IntKind.u64 d.snd.snd.snd.snd.snd.snd.snd.snd.fst))), AV.r (RV.c (CV.f (FV.b d.snd.snd.snd.snd.snd.snd.snd.snd.snd.snd.snd.snd.snd.snd.snd.snd))), AV.und, AV.und, AV.und,
    AV.und, AV.und, AV.und, AV.und, AV.und, AV.und, AV.und, AV.und, AV.und, AV.und, AV.und, AV.und, AV.und, AV.und, AV.und, AV.und, AV.tup [], AV.tup [], AV.tup [], AV.tup [], AV.tup [], AV.tup [],
    AV.tup [], AV.tup [], AV.und, AV.und, AV.und, AV.und, AV.und, AV.und, AV.und, AV.und, AV.und, AV.und, AV.und, AV.und, AV.und, AV.und, AV.und, AV.und, AV.und, AV.und, AV.und, AV.und, AV.und,
    AV.und]
  [] [])) (fun d => K (AX.ex 0) (St.mk
  [AV.und, AV.und, AV.r (RV.c (CV.f (FV.i IntKind.u64 d.fst))), AV.und, AV.und, AV.und, AV.und, AV.und, AV.r (RV.c (CV.f (FV.i IntKind.u64 d.snd.fst))),
    AV.r (RV.c (CV.f (FV.i IntKind.u64 d.snd.snd.fst))), AV.r (RV.c (CV.f (FV.i IntKind.u64 d.snd.snd.snd.fst))), AV.r (RV.c (CV.f (FV.i IntKind.u64 d.snd.snd.snd.snd.fst))), AV.und,
    AV.r (RV.c (CV.f (FV.i IntKind.u64 d.snd.snd.snd.snd.snd.fst))), AV.r (RV.c (CV.f (FV.i IntKind.u64 d.snd.snd.snd.snd.snd.snd.fst))),
    AV.r (RV.c (CV.f (FV.i IntKind.u64 d.snd.snd.snd.snd.snd.snd.snd.fst))), AV.r (RV.c (CV.f (FV.i IntKind.u64 d.snd.snd.snd.snd.snd.snd.snd.snd.fst))), AV.und, AV.und, AV.und, AV.und, AV.und,
    AV.und, AV.und, AV.und, AV.und, AV.und, AV.und, AV.und, AV.und, AV.und, AV.und, AV.und, AV.und, AV.und, AV.und, AV.und, AV.und, AV.und, AV.und, AV.und, AV.und, AV.und, AV.und, AV.und, AV.und,
    AV.und, AV.und, AV.und, AV.und, AV.und, AV.und, AV.und, AV.und, AV.und, AV.und, AV.und, AV.und, AV.und, AV.und, AV.und, AV.und, AV.und, AV.und, AV.und, AV.und, AV.und,
    AV.r (RV.c (CV.f (FV.i IntKind.u64 d.snd.snd.snd.snd.snd.snd.snd.fst))), AV.r (RV.c (CV.f (FV.b d.snd.snd.snd.snd.snd.snd.snd.snd.snd.fst))), AV.r (RV.c (CV.f (FV.b false))),
    AV.r (RV.c (CV.f (FV.i IntKind.u64 d.snd.snd.snd.snd.snd.snd.snd.fst))), AV.r (RV.c (CV.f (FV.i IntKind.u64 d.snd.snd.snd.fst))),
    AV.r (RV.c (CV.f (FV.i IntKind.u64 d.snd.snd.snd.snd.snd.snd.snd.snd.snd.snd.fst))), AV.r (RV.c (CV.f (FV.i IntKind.u64 d.snd.snd.snd.snd.snd.snd.snd.snd.fst))),
    AV.r (RV.c (CV.f (FV.i IntKind.u64 d.snd.snd.snd.snd.snd.snd.snd.snd.snd.snd.snd.fst))), AV.r (RV.c (CV.f (FV.i IntKind.u64 d.snd.snd.snd.snd.snd.fst))),
    AV.r (RV.c (CV.f (FV.i IntKind.u64 d.snd.snd.snd.snd.snd.snd.snd.snd.snd.snd.snd.snd.fst))), AV.r (RV.c (CV.f (FV.b d.snd.snd.snd.snd.snd.snd.snd.snd.snd.snd.snd.snd.snd))),
    AV.r (RV.c (CV.f (FV.b d.snd.snd.snd.snd.snd.snd.snd.snd.snd.snd.snd.snd.snd))), AV.und, AV.und, AV.und, AV.und, AV.und, AV.und, AV.und, AV.und, AV.und, AV.und, AV.und, AV.und, AV.und, AV.und,
    AV.und, AV.und, AV.und, AV.und, AV.und, AV.und, AV.und, AV.und, AV.und, AV.und, AV.und, AV.und, AV.tup [], AV.tup [], AV.tup [], AV.tup [], AV.tup [], AV.tup [], AV.tup [], AV.tup [], AV.und,
    AV.und, AV.und, AV.und, AV.und, AV.und, AV.und, AV.und, AV.und, AV.und, AV.und, AV.und, AV.und, AV.und, AV.und, AV.und, AV.und, AV.und, AV.und, AV.und, AV.und, AV.und]
  [] []))))
theorem ms_math_bits_Div64_0 {ρ σ : Type} (g_math_bits_LeadingZeros64 : Int → Option Int)   (q : ρ → Option σ) (x0 : Int) (x1 : Int) (x2 : Int) (x3 : Int) (x4 : Int) (x5 : Int) (x6 : Int) (x7 : Int) (x8 : Int) (c : (Int × Int × Int × Int × Int × Int × Int × Int × Int) → Option ρ) (x : (Int × Int × Int × Int × Int × Int × Int × Int × Int × Int × Bool × Int × Bool ⊕
  Int × Int × Int × Int × Int × Int × Int × Int × Int × Int × Bool × Int × Int × Int × Int × Bool × Bool ⊕ Int × Int × Int × Int × Int × Int × Int × Int × Int × Bool × Int × Int × Int × Bool) → Option ρ) : (S_math_bits_Div64_0 g_math_bits_LeadingZeros64  x0 x1 x2 x3 x4 x5 x6 x7 x8 c x).bind q = S_math_bits_Div64_0 g_math_bits_LeadingZeros64  x0 x1 x2 x3 x4 x5 x6 x7 x8 (fun d => (c d).bind q) (fun d => (x d).bind q) := by
  simp only [S_math_bits_Div64_0, bnd_cond, bnd_bind, bnd_none, bnd_sum]
def L_math_bits_Div64_0 {ρ : Type} (d : Int × Int × Int × Int × Int × Int × Int × Int × Int) (k : (Int × Int × Int × Int × Int × Int × Int × Int × Int × Int × Bool × Int × Bool ⊕
  Int × Int × Int × Int × Int × Int × Int × Int × Int × Int × Bool × Int × Int × Int × Int × Bool × Bool ⊕ Int × Int × Int × Int × Int × Int × Int × Int × Int × Bool × Int × Int × Int × Bool) → Option ρ) : Option ρ := loopK (fun d c x => S_math_bits_Div64_0 f_math_bits_LeadingZeros64  d.1 d.2.1 d.2.2.1 d.2.2.2.1 d.2.2.2.2.1 d.2.2.2.2.2.1 d.2.2.2.2.2.2.1 d.2.2.2.2.2.2.2.1 d.2.2.2.2.2.2.2.2 c x) 200 d k
theorem mL_math_bits_Div64_0 {ρ σ : Type} (q : ρ → Option σ) (d : Int × Int × Int × Int × Int × Int × Int × Int × Int) (k : (Int × Int × Int × Int × Int × Int × Int × Int × Int × Int × Bool × Int × Bool ⊕
  Int × Int × Int × Int × Int × Int × Int × Int × Int × Int × Bool × Int × Int × Int × Int × Bool × Bool ⊕ Int × Int × Int × Int × Int × Int × Int × Int × Int × Bool × Int × Int × Int × Bool) → Option ρ) : (L_math_bits_Div64_0 d k).bind q = L_math_bits_Div64_0 d fun x => (k x).bind q :=
  loopK_bind q (fun d c x => ms_math_bits_Div64_0 f_math_bits_LeadingZeros64   q d.1 d.2.1 d.2.2.1 d.2.2.2.1 d.2.2.2.2.1 d.2.2.2.2.2.1 d.2.2.2.2.2.2.1 d.2.2.2.2.2.2.2.1 d.2.2.2.2.2.2.2.2 c x) k _ d
def S_math_bits_Div64_1 {ρ : Type} (g_math_bits_LeadingZeros64 : Int → Option Int)  (x0 : Int) (x1 : Int) (x2 : Int) (x3 : Int) (x4 : Int) (x5 : Int) (x6 : Int) (x7 : Int) (x8 : Int) (c : (Int × Int × Int × Int × Int × Int × Int × Int × Int) → Option ρ) (x : (Int × Int × Int × Int × Int × Int × Int × Int × Int × Int × Bool × Int × Bool ⊕
  Int × Int × Int × Int × Int × Int × Int × Int × Int × Int × Bool × Int × Int × Int × Int × Bool × Bool ⊕ Int × Int × Int × Int × Int × Int × Int × Int × Int × Bool × Int × Int × Int × Bool) → Option ρ) : Option ρ :=
  bif decide (x8 ≥ 4294967296) then
    bif decide (IntKind.wrap IntKind.u64 (x6 + x2) ≥ 4294967296) then
      x
        (Sum.inl
          (x0, x1, x2, x3, x4, x5, IntKind.wrap IntKind.u64 (x6 + x2), x7, IntKind.wrap IntKind.u64 (x8 - 1), x8, decide (x8 ≥ 4294967296), x6, decide (IntKind.wrap IntKind.u64 (x6 + x2) ≥ 4294967296)))
    else c (x0, x1, x2, x3, x4, x5, IntKind.wrap IntKind.u64 (x6 + x2), x7, IntKind.wrap IntKind.u64 (x8 - 1))
  else
    bif decide (IntKind.wrap IntKind.u64 (x8 * x3) > IntKind.wrap IntKind.u64 (IntKind.wrap IntKind.u64 (4294967296 * x6) + x4)) then
      bif decide (IntKind.wrap IntKind.u64 (x6 + x2) ≥ 4294967296) then
        x
          (Sum.inr
            (Sum.inl
              (x0, x1, x2, x3, x4, x5, IntKind.wrap IntKind.u64 (x6 + x2), x7, IntKind.wrap IntKind.u64 (x8 - 1), x8, decide (x8 ≥ 4294967296), IntKind.wrap IntKind.u64 (x8 * x3), x6,
                IntKind.wrap IntKind.u64 (4294967296 * x6), IntKind.wrap IntKind.u64 (IntKind.wrap IntKind.u64 (4294967296 * x6) + x4),
                decide (IntKind.wrap IntKind.u64 (x8 * x3) > IntKind.wrap IntKind.u64 (IntKind.wrap IntKind.u64 (4294967296 * x6) + x4)), decide (IntKind.wrap IntKind.u64 (x6 + x2) ≥ 4294967296))))
      else c (x0, x1, x2, x3, x4, x5, IntKind.wrap IntKind.u64 (x6 + x2), x7, IntKind.wrap IntKind.u64 (x8 - 1))
    else
      x
        (Sum.inr
          (Sum.inr
            (x0, x1, x2, x3, x4, x5, x6, x7, x8, decide (x8 ≥ 4294967296), IntKind.wrap IntKind.u64 (x8 * x3), IntKind.wrap IntKind.u64 (4294967296 * x6),
              IntKind.wrap IntKind.u64 (IntKind.wrap IntKind.u64 (4294967296 * x6) + x4),
              decide (IntKind.wrap IntKind.u64 (x8 * x3) > IntKind.wrap IntKind.u64 (IntKind.wrap IntKind.u64 (4294967296 * x6) + x4)))))
section
open Go.Ab.Rdr
def Q_math_bits_Div64_1 := (st (cons aund (cons aund (cons (ar (rc (cf (fi .u64 hole)))) (cons aund (cons aund (cons aund (cons aund (cons aund (cons (ar (rc (cf (fi .u64 hole)))) (cons (ar (rc (cf (fi .u64 hole)))) (cons (ar (rc (cf (fi .u64 hole)))) (cons aund (cons aund (cons aund (cons (ar (rc (cf (fi .u64 hole)))) (cons (ar (rc (cf (fi .u64 hole)))) (cons (ar (rc (cf (fi .u64 hole)))) (cons (ar (rc (cf (fi .u64 hole)))) (cons (ar (rc (cf (fi .u64 hole)))) (cons aund (cons aund (cons aund (cons aund (cons aund (cons aund (cons aund (cons aund (cons aund (cons aund (cons aund (cons aund (cons aund (cons aund (cons aund (cons aund (cons aund (cons aund (cons aund (cons aund (cons aund (cons aund (cons aund (cons aund (cons aund (cons aund (cons aund (cons aund (cons aund (cons aund (cons aund (cons aund (cons aund (cons aund (cons aund (cons aund (cons aund (cons aund (cons aund (cons aund (cons aund (cons aund (cons aund (cons aund (cons aund (cons aund (cons aund (cons aund (cons aund (cons aund (cons aund (cons aund (cons aund (cons aund (cons aund (cons aund (cons aund (cons aund (cons aund (cons aund (cons aund (cons aund (cons aund (cons aund (cons aund (cons aund (cons aund (cons aund (cons aund (cons aund (cons aund (cons aund (cons aund (cons aund (cons aund (cons aund (cons aund (cons aund (cons aund (cons aund (cons aund (cons aund (cons aund (cons aund (cons aund (cons aund (cons aund (cons aund (cons aund (cons aund (cons aund (cons aund (cons aund (cons aund (cons aund (cons aund (cons aund (cons aund (cons aund (cons aund (cons aund (cons aund (cons aund (cons aund (cons aund (cons aund (cons aund (cons aund (cons aund (cons aund (cons aund (cons aund (cons aund (cons aund (cons aund (cons aund nil))))))))))))))))))))))))))))))))))))))))))))))))))))))))))))))))))))))))))))))))))))))))))))))))))))))))))))))))))))))))))))))))))))))) nil nil)
end
theorem q_math_bits_Div64_1 : ∀ b, (Q_math_bits_Div64_1).em b = St.mk
    [AV.und, AV.und, AV.r (RV.c (CV.f (FV.i IntKind.u64 b.1.2.2.1))), AV.und, AV.und, AV.und, AV.und, AV.und, AV.r (RV.c (CV.f (FV.i IntKind.u64 b.1.2.2.2.2.2.2.2.2.1))), AV.r (RV.c (CV.f (FV.i IntKind.u64 b.1.2.2.2.2.2.2.2.2.2.1))),
      AV.r (RV.c (CV.f (FV.i IntKind.u64 b.1.2.2.2.2.2.2.2.2.2.2.1))), AV.und, AV.und, AV.und, AV.r (RV.c (CV.f (FV.i IntKind.u64 b.1.2.2.2.2.2.2.2.2.2.2.2.2.2.2.1))), AV.r (RV.c (CV.f (FV.i IntKind.u64 b.1.2.2.2.2.2.2.2.2.2.2.2.2.2.2.2.1))), AV.r (RV.c (CV.f (FV.i IntKind.u64 b.1.2.2.2.2.2.2.2.2.2.2.2.2.2.2.2.2.1))),
      AV.r (RV.c (CV.f (FV.i IntKind.u64 b.1.2.2.2.2.2.2.2.2.2.2.2.2.2.2.2.2.2.1))), AV.r (RV.c (CV.f (FV.i IntKind.u64 b.1.2.2.2.2.2.2.2.2.2.2.2.2.2.2.2.2.2.2.1))), AV.und, AV.und, AV.und, AV.und, AV.und, AV.und, AV.und, AV.und, AV.und, AV.und, AV.und, AV.und, AV.und, AV.und,
      AV.und, AV.und, AV.und, AV.und, AV.und, AV.und, AV.und, AV.und, AV.und, AV.und, AV.und, AV.und, AV.und, AV.und, AV.und, AV.und, AV.und, AV.und, AV.und, AV.und, AV.und, AV.und, AV.und, AV.und,
      AV.und, AV.und, AV.und, AV.und, AV.und, AV.und, AV.und, AV.und, AV.und, AV.und, AV.und, AV.und, AV.und, AV.und, AV.und, AV.und, AV.und, AV.und, AV.und, AV.und, AV.und, AV.und, AV.und, AV.und,
      AV.und, AV.und, AV.und, AV.und, AV.und, AV.und, AV.und, AV.und, AV.und, AV.und, AV.und, AV.und, AV.und, AV.und, AV.und, AV.und, AV.und, AV.und, AV.und, AV.und, AV.und, AV.und, AV.und, AV.und,
      AV.und, AV.und, AV.und, AV.und, AV.und, AV.und, AV.und, AV.und, AV.und, AV.und, AV.und, AV.und, AV.und, AV.und, AV.und, AV.und, AV.und, AV.und, AV.und, AV.und, AV.und, AV.und, AV.und, AV.und,
      AV.und, AV.und, AV.und, AV.und, AV.und, AV.und]
    [] [] := fun b => by kernel_rfl
def R_math_bits_Div64_1 (l : ∀ {ρ : Type}, (Int × Int × Int × Int × Int × Int × Int × Int × Int) → ((Int × Int × Int × Int × Int × Int × Int × Int × Int × Int × Bool × Int × Bool ⊕
  Int × Int × Int × Int × Int × Int × Int × Int × Int × Int × Bool × Int × Int × Int × Int × Bool × Bool ⊕ Int × Int × Int × Int × Int × Int × Int × Int × Int × Bool × Int × Int × Int × Bool) → Option ρ) → Option ρ) {ρ : Type} (s : St) (K : AX → St → Option ρ) : Option ρ := ((Q_math_bits_Div64_1).rd s).bind fun b => l (b.1.2.2.1, b.1.2.2.2.2.2.2.2.2.1, b.1.2.2.2.2.2.2.2.2.2.1, b.1.2.2.2.2.2.2.2.2.2.2.1, b.1.2.2.2.2.2.2.2.2.2.2.2.2.2.2.1, b.1.2.2.2.2.2.2.2.2.2.2.2.2.2.2.2.1, b.1.2.2.2.2.2.2.2.2.2.2.2.2.2.2.2.2.1, b.1.2.2.2.2.2.2.2.2.2.2.2.2.2.2.2.2.2.1, b.1.2.2.2.2.2.2.2.2.2.2.2.2.2.2.2.2.2.2.1) (Sum.elim (fun d => K (AX.ex 2) (St.mk
  [AV.und, AV.und, AV.r (RV.c (CV.f (FV.i IntKind.u64 d.fst))), AV.und, AV.und, AV.und, AV.und, AV.und, AV.r (RV.c (CV.f (FV.i IntKind.u64 d.snd.fst))),
    AV.r (RV.c (CV.f (FV.i IntKind.u64 d.snd.snd.fst))), AV.r (RV.c (CV.f (FV.i IntKind.u64 d.snd.snd.snd.fst))), AV.und, AV.und, AV.und, AV.r (RV.c (CV.f (FV.i IntKind.u64 d.snd.snd.snd.snd.fst))),
    AV.r (RV.c (CV.f (FV.i IntKind.u64 d.snd.snd.snd.snd.snd.fst))), AV.r (RV.c (CV.f (FV.i IntKind.u64 d.snd.snd.snd.snd.snd.snd.fst))),
    AV.r (RV.c (CV.f (FV.i IntKind.u64 d.snd.snd.snd.snd.snd.snd.snd.fst))), AV.r (RV.c (CV.f (FV.i IntKind.u64 d.snd.snd.snd.snd.snd.snd.snd.snd.fst))), AV.und, AV.und, AV.und, AV.und, AV.und,
    AV.und, AV.und, AV.und, AV.und, AV.und, AV.und, AV.und, AV.und, AV.und, AV.und, AV.und, AV.und, AV.und, AV.und, AV.und, AV.und, AV.und, AV.und, AV.und, AV.und, AV.und, AV.und, AV.und, AV.und,
    AV.und, AV.und, AV.und, AV.und, AV.und, AV.und, AV.und, AV.und, AV.und, AV.und, AV.und, AV.und, AV.und, AV.und, AV.und, AV.und, AV.und, AV.und, AV.und, AV.und, AV.und, AV.und, AV.und, AV.und,
    AV.und, AV.und, AV.und, AV.und, AV.und, AV.und, AV.und, AV.und, AV.und, AV.und, AV.und, AV.und, AV.und, AV.und, AV.und, AV.und, AV.und, AV.und, AV.und, AV.und, AV.und, AV.und, AV.und, AV.und,
    AV.und, AV.und, AV.und, AV.und, AV.und, AV.und, AV.r (RV.c (CV.f (FV.i IntKind.u64 d.snd.snd.snd.snd.snd.snd.snd.snd.snd.fst))),
    AV.r (RV.c (CV.f (FV.b d.snd.snd.snd.snd.snd.snd.snd.snd.snd.snd.fst))), AV.r (RV.c (CV.f (FV.b true))), AV.tup [], AV.tup [], AV.tup [], AV.tup [], AV.tup [], AV.tup [], AV.tup [], AV.tup [],
    AV.r (RV.c (CV.f (FV.b true))), AV.r (RV.c (CV.f (FV.i IntKind.u64 d.snd.snd.snd.snd.snd.snd.snd.snd.snd.fst))), AV.r (RV.c (CV.f (FV.i IntKind.u64 d.snd.snd.snd.snd.snd.snd.snd.snd.fst))),
    AV.r (RV.c (CV.f (FV.i IntKind.u64 d.snd.snd.snd.snd.snd.snd.snd.snd.snd.snd.snd.fst))), AV.r (RV.c (CV.f (FV.i IntKind.u64 d.snd.snd.fst))),
    AV.r (RV.c (CV.f (FV.i IntKind.u64 d.snd.snd.snd.snd.snd.snd.fst))), AV.r (RV.c (CV.f (FV.i IntKind.u64 d.snd.snd.snd.snd.snd.snd.fst))),
    AV.r (RV.c (CV.f (FV.b d.snd.snd.snd.snd.snd.snd.snd.snd.snd.snd.snd.snd))), AV.und, AV.und, AV.und, AV.und, AV.und, AV.und, AV.und, AV.und, AV.und, AV.und, AV.und, AV.und, AV.und, AV.und]
  [] [])) (Sum.elim (fun d => K (AX.ex 2) (St.mk
  [AV.und, AV.und, AV.r (RV.c (CV.f (FV.i IntKind.u64 d.fst))), AV.und, AV.und, AV.und, AV.und, AV.und, AV.r (RV.c (CV.f (FV.i IntKind.u64 d.snd.fst))),
    AV.r (RV.c (CV.f (FV.i IntKind.u64 d.snd.snd.fst))), AV.r (RV.c (CV.f (FV.i IntKind.u64 d.snd.snd.snd.fst))), AV.und, AV.und, AV.und, AV.r (RV.c (CV.f (FV.i IntKind.u64 d.snd.snd.snd.snd.fst))),
    AV.r (RV.c (CV.f (FV.i IntKind.u64 d.snd.snd.snd.snd.snd.fst))), AV.r (RV.c (CV.f (FV.i IntKind.u64 d.snd.snd.snd.snd.snd.snd.fst))),
    AV.r (RV.c (CV.f (FV.i IntKind.u64 d.snd.snd.snd.snd.snd.snd.snd.fst))), AV.r (RV.c (CV.f (FV.i IntKind.u64 d.snd.snd.snd.snd.snd.snd.snd.snd.fst))), AV.und, AV.und, AV.und, AV.und, AV.und,
    AV.und, AV.und, AV.und, AV.und, AV.und, AV.und, AV.und, AV.und, AV.und, AV.und, AV.und, AV.und, AV.und, AV.und, AV.und, AV.und, AV.und, AV.und, AV.und, AV.und, AV.und, AV.und, AV.und, AV.und,
    AV.und, AV.und, AV.und, AV.und, AV.und, AV.und, AV.und, AV.und, AV.und, AV.und, AV.und, AV.und, AV.und, AV.und, AV.und, AV.und, AV.und, AV.und, AV.und, AV.und, AV.und, AV.und, AV.und, AV.und,
    AV.und, AV.und, AV.und, AV.und, AV.und, AV.und, AV.und, AV.und, AV.und, AV.und, AV.und, AV.und, AV.und, AV.und, AV.und, AV.und, AV.und, AV.und, AV.und, AV.und, AV.und, AV.und, AV.und, AV.und,
    AV.und, AV.und, AV.und, AV.und, AV.und, AV.und, AV.r (RV.c (CV.f (FV.i IntKind.u64 d.snd.snd.snd.snd.snd.snd.snd.snd.snd.fst))),
    AV.r (RV.c (CV.f (FV.b d.snd.snd.snd.snd.snd.snd.snd.snd.snd.snd.fst))), AV.r (RV.c (CV.f (FV.b false))), AV.r (RV.c (CV.f (FV.i IntKind.u64 d.snd.snd.snd.snd.snd.snd.snd.snd.snd.fst))),
    AV.r (RV.c (CV.f (FV.i IntKind.u64 d.snd.snd.snd.fst))), AV.r (RV.c (CV.f (FV.i IntKind.u64 d.snd.snd.snd.snd.snd.snd.snd.snd.snd.snd.snd.fst))),
    AV.r (RV.c (CV.f (FV.i IntKind.u64 d.snd.snd.snd.snd.snd.snd.snd.snd.snd.snd.snd.snd.fst))), AV.r (RV.c (CV.f (FV.i IntKind.u64 d.snd.snd.snd.snd.snd.snd.snd.snd.snd.snd.snd.snd.snd.fst))),
    AV.r (RV.c (CV.f (FV.i IntKind.u64 d.snd.snd.snd.snd.fst))), AV.r (RV.c (CV.f (FV.i IntKind.u64 d.snd.snd.snd.snd.snd.snd.snd.snd.snd.snd.snd.snd.snd.snd.fst))),
    AV.r (RV.c (CV.f (FV.b d.snd.snd.snd.snd.snd.snd.snd.snd.snd.snd.snd.snd.snd.snd.snd.fst))), AV.r (RV.c (CV.f (FV.b d.snd.snd.snd.snd.snd.snd.snd.snd.snd.snd.snd.snd.snd.snd.snd.fst))),
    AV.r (RV.c (CV.f (FV.i IntKind.u64 d.snd.snd.snd.snd.snd.snd.snd.snd.snd.fst))), AV.r (RV.c (CV.f (FV.i IntKind.u64 d.snd.snd.snd.snd.snd.snd.snd.snd.fst))),
    AV.r (RV.c (CV.f (FV.i IntKind.u64 d.snd.snd.snd.snd.snd.snd.snd.snd.snd.snd.snd.snd.fst))), AV.r (RV.c (CV.f (FV.i IntKind.u64 d.snd.snd.fst))),
    AV.r (RV.c (CV.f (FV.i IntKind.u64 d.snd.snd.snd.snd.snd.snd.fst))), AV.r (RV.c (CV.f (FV.i IntKind.u64 d.snd.snd.snd.snd.snd.snd.fst))),
    AV.r (RV.c (CV.f (FV.b d.snd.snd.snd.snd.snd.snd.snd.snd.snd.snd.snd.snd.snd.snd.snd.snd))), AV.und, AV.und, AV.und, AV.und, AV.und, AV.und, AV.und, AV.und, AV.und, AV.und, AV.und, AV.und, AV.und,
    AV.und]
  [] [])) (fun d => K (AX.ex 2) (St.mk
  [AV.und, AV.und, AV.r (RV.c (CV.f (FV.i IntKind.u64 d.fst))), AV.und, AV.und, AV.und, AV.und, AV.und, AV.r (RV.c (CV.f (FV.i IntKind.u64 d.snd.fst))),
    AV.r (RV.c (CV.f (FV.i IntKind.u64 d.snd.snd.fst))), AV.r (RV.c (CV.f (FV.i IntKind.u64 d.snd.snd.snd.fst))), AV.und, AV.und, AV.und, AV.r (RV.c (CV.f (FV.i IntKind.u64 d.snd.snd.snd.snd.fst))),
    AV.r (RV.c (CV.f (FV.i IntKind.u64 d.snd.snd.snd.snd.snd.fst))), AV.r (RV.c (CV.f (FV.i IntKind.u64 d.snd.snd.snd.snd.snd.snd.fst))),
    AV.r (RV.c (CV.f (FV.i IntKind.u64 d.snd.snd.snd.snd.snd.snd.snd.fst))), AV.r (RV.c (CV.f (FV.i IntKind.u64 d.snd.snd.snd.snd.snd.snd.snd.snd.fst))), AV.und, AV.und, AV.und, AV.und, AV.und,
    AV.und, AV.und, AV.und, AV.und, AV.und, AV.und, AV.und, AV.und, AV.und, AV.und, AV.und, AV.und, AV.und, AV.und, AV.und, AV.und, AV.und, AV.und, AV.und, AV.und, AV.und, AV.und, AV.und, AV.und,
    AV.und, AV.und, AV.und, AV.und, AV.und, AV.und, AV.und, AV.und, AV.und, AV.und, AV.und, AV.und, AV.und, AV.und, AV.und, AV.und, AV.und, AV.und, AV.und, AV.und, AV.und, AV.und, AV.und, AV.und,
    AV.und, AV.und, AV.und, AV.und, AV.und, AV.und, AV.und, AV.und, AV.und, AV.und, AV.und, AV.und, AV.und, AV.und, AV.und, AV.und, AV.und, AV.und, AV.und, AV.und, AV.und, AV.und, AV.und, AV.und,
    AV.und, AV.und, AV.und, AV.und, AV.und, AV.und, AV.r (RV.c (CV.f (FV.i IntKind.u64 d.snd.snd.snd.snd.snd.snd.snd.snd.fst))), AV.r (RV.c (CV.f (FV.b d.snd.snd.snd.snd.snd.snd.snd.snd.snd.fst))),
    AV.r (RV.c (CV.f (FV.b false))), AV.r (RV.c (CV.f (FV.i IntKind.u64 d.snd.snd.snd.snd.snd.snd.snd.snd.fst))), AV.r (RV.c (CV.f (FV.i IntKind.u64 d.snd.snd.snd.fst))),
    AV.r (RV.c (CV.f (FV.i IntKind.u64 d.snd.snd.snd.snd.snd.snd.snd.snd.snd.snd.fst))), AV.r (RV.c (CV.f (FV.i IntKind.u64 d.snd.snd.snd.snd.snd.snd.fst))),
    AV.r (RV.c (CV.f (FV.i IntKind.u64 d.snd.snd.snd.snd.snd.snd.snd.snd.snd.snd.snd.fst))), AV.r (RV.c (CV.f (FV.i IntKind.u64 d.snd.snd.snd.snd.fst))),
    AV.r (RV.c (CV.f (FV.i IntKind.u64 d.snd.snd.snd.snd.snd.snd.snd.snd.snd.snd.snd.snd.fst))), AV.r (RV.c (CV.f (FV.b d.snd.snd.snd.snd.snd.snd.snd.snd.snd.snd.snd.snd.snd))),
    AV.r (RV.c (CV.f (FV.b d.snd.snd.snd.snd.snd.snd.snd.snd.snd.snd.snd.snd.snd))), AV.und, AV.und, AV.und, AV.und, AV.und, AV.und, AV.und, AV.und, AV.und, AV.und, AV.und, AV.und, AV.und, AV.und,
    AV.und, AV.und, AV.und, AV.und, AV.und, AV.und, AV.und]
  [] []))))
theorem ms_math_bits_Div64_1 {ρ σ : Type} (g_math_bits_LeadingZeros64 : Int → Option Int)   (q : ρ → Option σ) (x0 : Int) (x1 : Int) (x2 : Int) (x3 : Int) (x4 : Int) (x5 : Int) (x6 : Int) (x7 : Int) (x8 : Int) (c : (Int × Int × Int × Int × Int × Int × Int × Int × Int) → Option ρ) (x : (Int × Int × Int × Int × Int × Int × Int × Int × Int × Int × Bool × Int × Bool ⊕
  Int × Int × Int × Int × Int × Int × Int × Int × Int × Int × Bool × Int × Int × Int × Int × Bool × Bool ⊕ Int × Int × Int × Int × Int × Int × Int × Int × Int × Bool × Int × Int × Int × Bool) → Option ρ) : (S_math_bits_Div64_1 g_math_bits_LeadingZeros64  x0 x1 x2 x3 x4 x5 x6 x7 x8 c x).bind q = S_math_bits_Div64_1 g_math_bits_LeadingZeros64  x0 x1 x2 x3 x4 x5 x6 x7 x8 (fun d => (c d).bind q) (fun d => (x d).bind q) := by
  simp only [S_math_bits_Div64_1, bnd_cond, bnd_bind, bnd_none, bnd_sum]
def L_math_bits_Div64_1 {ρ : Type} (d : Int × Int × Int × Int × Int × Int × Int × Int × Int) (k : (Int × Int × Int × Int × Int × Int × Int × Int × Int × Int × Bool × Int × Bool ⊕
  Int × Int × Int × Int × Int × Int × Int × Int × Int × Int × Bool × Int × Int × Int × Int × Bool × Bool ⊕ Int × Int × Int × Int × Int × Int × Int × Int × Int × Bool × Int × Int × Int × Bool) → Option ρ) : Option ρ := loopK (fun d c x => S_math_bits_Div64_1 f_math_bits_LeadingZeros64  d.1 d.2.1 d.2.2.1 d.2.2.2.1 d.2.2.2.2.1 d.2.2.2.2.2.1 d.2.2.2.2.2.2.1 d.2.2.2.2.2.2.2.1 d.2.2.2.2.2.2.2.2 c x) 200 d k
theorem mL_math_bits_Div64_1 {ρ σ : Type} (q : ρ → Option σ) (d : Int × Int × Int × Int × Int × Int × Int × Int × Int) (k : (Int × Int × Int × Int × Int × Int × Int × Int × Int × Int × Bool × Int × Bool ⊕
  Int × Int × Int × Int × Int × Int × Int × Int × Int × Int × Bool × Int × Int × Int × Int × Bool × Bool ⊕ Int × Int × Int × Int × Int × Int × Int × Int × Int × Bool × Int × Int × Int × Bool) → Option ρ) : (L_math_bits_Div64_1 d k).bind q = L_math_bits_Div64_1 d fun x => (k x).bind q :=
  loopK_bind q (fun d c x => ms_math_bits_Div64_1 f_math_bits_LeadingZeros64   q d.1 d.2.1 d.2.2.1 d.2.2.2.1 d.2.2.2.2.1 d.2.2.2.2.2.1 d.2.2.2.2.2.2.1 d.2.2.2.2.2.2.2.1 d.2.2.2.2.2.2.2.2 c x) k _ d
theorem ds_math_bits_Div64_0 {ρ : Type} (g_math_bits_LeadingZeros64 : Int → Option Int) (l_0 : ∀ {ρ : Type}, (Int × Int × Int × Int × Int × Int × Int × Int × Int) → ((Int × Int × Int × Int × Int × Int × Int × Int × Int × Int × Bool × Int × Bool ⊕
  Int × Int × Int × Int × Int × Int × Int × Int × Int × Int × Bool × Int × Int × Int × Int × Bool × Bool ⊕ Int × Int × Int × Int × Int × Int × Int × Int × Int × Bool × Int × Int × Int × Bool) → Option ρ) → Option ρ) (l_1 : ∀ {ρ : Type}, (Int × Int × Int × Int × Int × Int × Int × Int × Int) → ((Int × Int × Int × Int × Int × Int × Int × Int × Int × Int × Bool × Int × Bool ⊕
  Int × Int × Int × Int × Int × Int × Int × Int × Int × Int × Bool × Int × Int × Int × Int × Bool × Bool ⊕ Int × Int × Int × Int × Int × Int × Int × Int × Int × Bool × Int × Int × Int × Bool) → Option ρ) → Option ρ) (x0 : Int) (x1 : Int) (x2 : Int) (x3 : Int) (x4 : Int) (x5 : Int) (x6 : Int) (x7 : Int) (x8 : Int) (c : St → Option ρ) (K : AX → St → Option ρ) :
    runC Try.prog (envOf [(89, F_math_bits_LeadingZeros64 g_math_bits_LeadingZeros64)]) ⟨[⟨17, [0, 1, 3, 4, 5, 6, 7, 12, 17, 18, 19, 20, 21, 22, 23, 24, 25, 26, 27, 28, 29, 30, 31, 32, 33, 34, 35, 36, 37, 38, 39, 40, 41, 42, 43, 44, 45, 46, 47, 48, 49, 50, 51, 52, 53, 54, 55, 56, 57, 58, 59, 60, 61, 62, 63, 64, 65, 66, 67, 68, 69, 78, 79, 80, 81, 82, 83, 84, 85, 86, 87, 88, 89, 90, 91, 92, 93, 94, 95, 96, 97, 98, 99, 100, 101, 102, 103, 104, 113, 114, 115, 116, 117, 118, 119, 120, 121, 122, 123, 124, 125, 126, 127, 128, 129, 130, 131, 132, 133, 134, 70, 71, 72, 73, 74, 75, 76, 77], []⟩, ⟨24, [0, 1, 3, 4, 5, 6, 7, 11, 12, 13, 19, 20, 21, 22, 23, 24, 25, 26, 27, 28, 29, 30, 31, 32, 33, 34, 35, 36, 37, 38, 39, 40, 41, 42, 43, 44, 45, 46, 47, 48, 49, 50, 51, 52, 53, 54, 55, 56, 57, 58, 59, 60, 61, 62, 63, 64, 65, 66, 67, 68, 69, 70, 71, 72, 73, 74, 75, 76, 77, 78, 79, 80, 81, 82, 83, 84, 85, 86, 87, 88, 89, 90, 91, 92, 93, 94, 95, 96, 97, 98, 99, 100, 101, 102, 103, 104, 113, 114, 115, 116, 117, 118, 119, 120, 121, 122, 123, 124, 125, 126, 127, 128, 129, 130, 131, 132, 133, 134, 105, 106, 107, 108, 109, 110, 111, 112], []⟩], [⟨17, 0, @R_math_bits_Div64_0 (@l_0)⟩, ⟨24, 0, @R_math_bits_Div64_1 (@l_1)⟩], [], [], none⟩ (tmpsOf Try.prog 54) 0 200 (loopIn Try.prog 54 17)
      (St.mk
    [AV.und, AV.und, AV.r (RV.c (CV.f (FV.i IntKind.u64 x0))), AV.und, AV.und, AV.und, AV.und, AV.und, AV.r (RV.c (CV.f (FV.i IntKind.u64 x1))), AV.r (RV.c (CV.f (FV.i IntKind.u64 x2))),
      AV.r (RV.c (CV.f (FV.i IntKind.u64 x3))), AV.r (RV.c (CV.f (FV.i IntKind.u64 x4))), AV.und, AV.r (RV.c (CV.f (FV.i IntKind.u64 x5))), AV.r (RV.c (CV.f (FV.i IntKind.u64 x6))),
      AV.r (RV.c (CV.f (FV.i IntKind.u64 x7))), AV.r (RV.c (CV.f (FV.i IntKind.u64 x8))), AV.und, AV.und, AV.und, AV.und, AV.und, AV.und, AV.und, AV.und, AV.und, AV.und, AV.und, AV.und, AV.und, AV.und,
      AV.und, AV.und, AV.und, AV.und, AV.und, AV.und, AV.und, AV.und, AV.und, AV.und, AV.und, AV.und, AV.und, AV.und, AV.und, AV.und, AV.und, AV.und, AV.und, AV.und, AV.und, AV.und, AV.und, AV.und,
      AV.und, AV.und, AV.und, AV.und, AV.und, AV.und, AV.und, AV.und, AV.und, AV.und, AV.und, AV.und, AV.und, AV.und, AV.und, AV.und, AV.und, AV.und, AV.und, AV.und, AV.und, AV.und, AV.und, AV.und,
      AV.und, AV.und, AV.und, AV.und, AV.und, AV.und, AV.und, AV.und, AV.und, AV.und, AV.und, AV.und, AV.und, AV.und, AV.und, AV.und, AV.und, AV.und, AV.und, AV.und, AV.und, AV.und, AV.und, AV.und,
      AV.und, AV.und, AV.tup [], AV.tup [], AV.tup [], AV.tup [], AV.tup [], AV.tup [], AV.tup [], AV.tup [], AV.und, AV.und, AV.und, AV.und, AV.und, AV.und, AV.und, AV.und, AV.und, AV.und, AV.und,
      AV.und, AV.und, AV.und, AV.und, AV.und, AV.und, AV.und, AV.und, AV.und, AV.und, AV.und]
    [] [])
      (next (fun t => t.head 0 ⟨[⟨17, [0, 1, 3, 4, 5, 6, 7, 12, 17, 18, 19, 20, 21, 22, 23, 24, 25, 26, 27, 28, 29, 30, 31, 32, 33, 34, 35, 36, 37, 38, 39, 40, 41, 42, 43, 44, 45, 46, 47, 48, 49, 50, 51, 52, 53, 54, 55, 56, 57, 58, 59, 60, 61, 62, 63, 64, 65, 66, 67, 68, 69, 78, 79, 80, 81, 82, 83, 84, 85, 86, 87, 88, 89, 90, 91, 92, 93, 94, 95, 96, 97, 98, 99, 100, 101, 102, 103, 104, 113, 114, 115, 116, 117, 118, 119, 120, 121, 122, 123, 124, 125, 126, 127, 128, 129, 130, 131, 132, 133, 134, 70, 71, 72, 73, 74, 75, 76, 77], []⟩, ⟨24, [0, 1, 3, 4, 5, 6, 7, 11, 12, 13, 19, 20, 21, 22, 23, 24, 25, 26, 27, 28, 29, 30, 31, 32, 33, 34, 35, 36, 37, 38, 39, 40, 41, 42, 43, 44, 45, 46, 47, 48, 49, 50, 51, 52, 53, 54, 55, 56, 57, 58, 59, 60, 61, 62, 63, 64, 65, 66, 67, 68, 69, 70, 71, 72, 73, 74, 75, 76, 77, 78, 79, 80, 81, 82, 83, 84, 85, 86, 87, 88, 89, 90, 91, 92, 93, 94, 95, 96, 97, 98, 99, 100, 101, 102, 103, 104, 113, 114, 115, 116, 117, 118, 119, 120, 121, 122, 123, 124, 125, 126, 127, 128, 129, 130, 131, 132, 133, 134, 105, 106, 107, 108, 109, 110, 111, 112], []⟩], [⟨17, 0, @R_math_bits_Div64_0 (@l_0)⟩, ⟨24, 0, @R_math_bits_Div64_1 (@l_1)⟩], [], [], none⟩ (loopIn Try.prog 54 17)) c K) =
    S_math_bits_Div64_0 g_math_bits_LeadingZeros64  x0 x1 x2 x3 x4 x5 x6 x7 x8 (fun d => c (St.mk
  [AV.und, AV.und, AV.r (RV.c (CV.f (FV.i IntKind.u64 d.fst))), AV.und, AV.und, AV.und, AV.und, AV.und, AV.r (RV.c (CV.f (FV.i IntKind.u64 d.snd.fst))),
    AV.r (RV.c (CV.f (FV.i IntKind.u64 d.snd.snd.fst))), AV.r (RV.c (CV.f (FV.i IntKind.u64 d.snd.snd.snd.fst))), AV.r (RV.c (CV.f (FV.i IntKind.u64 d.snd.snd.snd.snd.fst))), AV.und,
    AV.r (RV.c (CV.f (FV.i IntKind.u64 d.snd.snd.snd.snd.snd.fst))), AV.r (RV.c (CV.f (FV.i IntKind.u64 d.snd.snd.snd.snd.snd.snd.fst))),
    AV.r (RV.c (CV.f (FV.i IntKind.u64 d.snd.snd.snd.snd.snd.snd.snd.fst))), AV.r (RV.c (CV.f (FV.i IntKind.u64 d.snd.snd.snd.snd.snd.snd.snd.snd))), AV.und, AV.und, AV.und, AV.und, AV.und, AV.und,
    AV.und, AV.und, AV.und, AV.und, AV.und, AV.und, AV.und, AV.und, AV.und, AV.und, AV.und, AV.und, AV.und, AV.und, AV.und, AV.und, AV.und, AV.und, AV.und, AV.und, AV.und, AV.und, AV.und, AV.und,
    AV.und, AV.und, AV.und, AV.und, AV.und, AV.und, AV.und, AV.und, AV.und, AV.und, AV.und, AV.und, AV.und, AV.und, AV.und, AV.und, AV.und, AV.und, AV.und, AV.und, AV.und, AV.und, AV.und, AV.und,
    AV.und, AV.und, AV.und, AV.und, AV.und, AV.und, AV.und, AV.und, AV.und, AV.und, AV.und, AV.und, AV.und, AV.und, AV.und, AV.und, AV.und, AV.und, AV.und, AV.und, AV.und, AV.und, AV.und, AV.und,
    AV.und, AV.und, AV.und, AV.und, AV.und, AV.und, AV.und, AV.und, AV.und, AV.und, AV.tup [], AV.tup [], AV.tup [], AV.tup [], AV.tup [], AV.tup [], AV.tup [], AV.tup [], AV.und, AV.und, AV.und,
    AV.und, AV.und, AV.und, AV.und, AV.und, AV.und, AV.und, AV.und, AV.und, AV.und, AV.und, AV.und, AV.und, AV.und, AV.und, AV.und, AV.und, AV.und, AV.und]
  [] [])) (Sum.elim (fun d => K (AX.ex 0) (St.mk
  [AV.und, AV.und, AV.r (RV.c (CV.f (FV.i IntKind.u64 d.fst))), AV.und, AV.und, AV.und, AV.und, AV.und, AV.r (RV.c (CV.f (FV.i IntKind.u64 d.snd.fst))),
    AV.r (RV.c (CV.f (FV.i IntKind.u64 d.snd.snd.fst))), AV.r (RV.c (CV.f (FV.i IntKind.u64 d.snd.snd.snd.fst))), AV.r (RV.c (CV.f (FV.i IntKind.u64 d.snd.snd.snd.snd.fst))), AV.und,
    AV.r (RV.c (CV.f (FV.i IntKind.u64 d.snd.snd.snd.snd.snd.fst))), AV.r (RV.c (CV.f (FV.i IntKind.u64 d.snd.snd.snd.snd.snd.snd.fst))),
    AV.r (RV.c (CV.f (FV.i IntKind.u64 d.snd.snd.snd.snd.snd.snd.snd.fst))), AV.r (RV.c (CV.f (FV.i IntKind.u64 d.snd.snd.snd.snd.snd.snd.snd.snd.fst))), AV.und, AV.und, AV.und, AV.und, AV.und,
    AV.und, AV.und, AV.und, AV.und, AV.und, AV.und, AV.und, AV.und, AV.und, AV.und, AV.und, AV.und, AV.und, AV.und, AV.und, AV.und, AV.und, AV.und, AV.und, AV.und, AV.und, AV.und, AV.und, AV.und,
    AV.und, AV.und, AV.und, AV.und, AV.und, AV.und, AV.und, AV.und, AV.und, AV.und, AV.und, AV.und, AV.und, AV.und, AV.und, AV.und, AV.und, AV.und, AV.und, AV.und, AV.und,
    AV.r (RV.c (CV.f (FV.i IntKind.u64 d.snd.snd.snd.snd.snd.snd.snd.snd.snd.fst))), AV.r (RV.c (CV.f (FV.b d.snd.snd.snd.snd.snd.snd.snd.snd.snd.snd.fst))), AV.r (RV.c (CV.f (FV.b true))), AV.tup [],
    AV.tup [], AV.tup [], AV.tup [], AV.tup [], AV.tup [], AV.tup [], AV.tup [], AV.r (RV.c (CV.f (FV.b true))), AV.r (RV.c (CV.f (FV.i IntKind.u64 d.snd.snd.snd.snd.snd.snd.snd.snd.snd.fst))),
    AV.r (RV.c (CV.f (FV.i IntKind.u64 d.snd.snd.snd.snd.snd.snd.snd.fst))), AV.r (RV.c (CV.f (FV.i IntKind.u64 d.snd.snd.snd.snd.snd.snd.snd.snd.snd.snd.snd.fst))),
    AV.r (RV.c (CV.f (FV.i IntKind.u64 d.snd.snd.fst))), AV.r (RV.c (CV.f (FV.i IntKind.u64 d.snd.snd.snd.snd.snd.snd.snd.snd.fst))),
    AV.r (RV.c (CV.f (FV.i IntKind.u64 d.snd.snd.snd.snd.snd.snd.snd.snd.fst))), AV.r (RV.c (CV.f (FV.b d.snd.snd.snd.snd.snd.snd.snd.snd.snd.snd.snd.snd))), AV.und, AV.und, AV.und, AV.und, AV.und,
    AV.und, AV.und, AV.und, AV.und, AV.und, AV.und, AV.und, AV.und, AV.und, AV.und, AV.und, AV.und, AV.und, AV.und, AV.tup [], AV.tup [], AV.tup [], AV.tup [], AV.tup [], AV.tup [], AV.tup [],
    AV.tup [], AV.und, AV.und, AV.und, AV.und, AV.und, AV.und, AV.und, AV.und, AV.und, AV.und, AV.und, AV.und, AV.und, AV.und, AV.und, AV.und, AV.und, AV.und, AV.und, AV.und, AV.und, AV.und]
  [] [])) (Sum.elim (fun d => K (AX.ex 0) (St.mk
  [AV.und, AV.und, AV.r (RV.c (CV.f (FV.i IntKind.u64 d.fst))), AV.und, AV.und, AV.und, AV.und, AV.und, AV.r (RV.c (CV.f (FV.i IntKind.u64 d.snd.fst))),
    AV.r (RV.c (CV.f (FV.i IntKind.u64 d.snd.snd.fst))), AV.r (RV.c (CV.f (FV.i IntKind.u64 d.snd.snd.snd.fst))), AV.r (RV.c (CV.f (FV.i IntKind.u64 d.snd.snd.snd.snd.fst))), AV.und,
    AV.r (RV.c (CV.f (FV.i IntKind.u64 d.snd.snd.snd.snd.snd.fst))), AV.r (RV.c (CV.f (FV.i IntKind.u64 d.snd.snd.snd.snd.snd.snd.fst))),
    AV.r (RV.c (CV.f (FV.i IntKind.u64 d.snd.snd.snd.snd.snd.snd.snd.fst))), AV.r (RV.c (CV.f (FV.i IntKind.u64 d.snd.snd.snd.snd.snd.snd.snd.snd.fst))), AV.und, AV.und, AV.und, AV.und, AV.und,
    AV.und, AV.und, AV.und, AV.und, AV.und, AV.und, AV.und, AV.und, AV.und, AV.und, AV.und, AV.und, AV.und, AV.und, AV.und, AV.und, AV.und, AV.und, AV.und, AV.und, AV.und, AV.und, AV.und, AV.und,
    AV.und, AV.und, AV.und, AV.und, AV.und, AV.und, AV.und, AV.und, AV.und, AV.und, AV.und, AV.und, AV.und, AV.und, AV.und, AV.und, AV.und, AV.und, AV.und, AV.und, AV.und,
    AV.r (RV.c (CV.f (FV.i IntKind.u64 d.snd.snd.snd.snd.snd.snd.snd.snd.snd.fst))), AV.r (RV.c (CV.f (FV.b d.snd.snd.snd.snd.snd.snd.snd.snd.snd.snd.fst))), AV.r (RV.c (CV.f (FV.b false))),
    AV.r (RV.c (CV.f (FV.i IntKind.u64 d.snd.snd.snd.snd.snd.snd.snd.snd.snd.fst))), AV.r (RV.c (CV.f (FV.i IntKind.u64 d.snd.snd.snd.fst))),
    AV.r (RV.c (CV.f (FV.i IntKind.u64 d.snd.snd.snd.snd.snd.snd.snd.snd.snd.snd.snd.fst))), AV.r (RV.c (CV.f (FV.i IntKind.u64 d.snd.snd.snd.snd.snd.snd.snd.snd.snd.snd.snd.snd.fst))),
    AV.r (RV.c (CV.f (FV.i IntKind.u64 d.snd.snd.snd.snd.snd.snd.snd.snd.snd.snd.snd.snd.snd.fst))), AV.r (RV.c (CV.f (FV.i IntKind.u64 d.snd.snd.snd.snd.snd.fst))),
    AV.r (RV.c (CV.f (FV.i IntKind.u64 d.snd.snd.snd.snd.snd.snd.snd.snd.snd.snd.snd.snd.snd.snd.fst))), AV.r (RV.c (CV.f (FV.b d.snd.snd.snd.snd.snd.snd.snd.snd.snd.snd.snd.snd.snd.snd.snd.fst))),
    AV.r (RV.c (CV.f (FV.b d.snd.snd.snd.snd.snd.snd.snd.snd.snd.snd.snd.snd.snd.snd.snd.fst))), AV.r (RV.c (CV.f (FV.i IntKind.u64 d.snd.snd.snd.snd.snd.snd.snd.snd.snd.fst))),
    AV.r (RV.c (CV.f (FV.i IntKind.u64 d.snd.snd.snd.snd.snd.snd.snd.fst))), AV.r (RV.c (CV.f (FV.i IntKind.u64 d.snd.snd.snd.snd.snd.snd.snd.snd.snd.snd.snd.snd.fst))),
    AV.r (RV.c (CV.f (FV.i IntKind.u64 d.snd.snd.fst))), AV.r (RV.c (CV.f (FV.i IntKind.u64 d.snd.snd.snd.snd.snd.snd.snd.snd.fst))),
    AV.r (RV.c (CV.f (FV.i IntKind.u64 d.snd.snd.snd.snd.snd.snd.snd.snd.fst))), AV.r (RV.c (CV.f (FV.b d.snd.snd.snd.snd.snd.snd.snd.snd.snd.snd.snd.snd.snd.snd.snd.snd))), AV.und, AV.und, AV.und,
    AV.und, AV.und, AV.und, AV.und, AV.und, AV.und, AV.und, AV.und, AV.und, AV.und, AV.und, AV.und, AV.und, AV.und, AV.und, AV.und, AV.tup [], AV.tup [], AV.tup [], AV.tup [], AV.tup [], AV.tup [],
    AV.tup [], AV.tup [], AV.und, AV.und, AV.und, AV.und, AV.und, AV.und, AV.und, AV.und, AV.und, AV.und, AV.und, AV.und, AV.und, AV.und, AV.und, AV.und, AV.und, AV.und, AV.und, AV.und, AV.und,
    AV.und]
  [] [])) (fun d => K (AX.ex 0) (St.mk
  [AV.und, AV.und, AV.r (RV.c (CV.f (FV.i IntKind.u64 d.fst))), AV.und, AV.und, AV.und, AV.und, AV.und, AV.r (RV.c (CV.f (FV.i IntKind.u64 d.snd.fst))),
    AV.r (RV.c (CV.f (FV.i IntKind.u64 d.snd.snd.fst))), AV.r (RV.c (CV.f (FV.i IntKind.u64 d.snd.snd.snd.fst))), AV.r (RV.c (CV.f (FV.i IntKind.u64 d.snd.snd.snd.snd.fst))), AV.und,
    AV.r (RV.c (CV.f (FV.i IntKind.u64 d.snd.snd.snd.snd.snd.fst))), AV.r (RV.c (CV.f (FV.i IntKind.u64 d.snd.snd.snd.snd.snd.snd.fst))),
    AV.r (RV.c (CV.f (FV.i IntKind.u64 d.snd.snd.snd.snd.snd.snd.snd.fst))), AV.r (RV.c (CV.f (FV.i IntKind.u64 d.snd.snd.snd.snd.snd.snd.snd.snd.fst))), AV.und, AV.und, AV.und, AV.und, AV.und,
    AV.und, AV.und, AV.und, AV.und, AV.und, AV.und, AV.und, AV.und, AV.und, AV.und, AV.und, AV.und, AV.und, AV.und, AV.und, AV.und, AV.und, AV.und, AV.und, AV.und, AV.und, AV.und, AV.und, AV.und,
    AV.und, AV.und, AV.und, AV.und, AV.und, AV.und, AV.und, AV.und, AV.und, AV.und, AV.und, AV.und, AV.und, AV.und, AV.und, AV.und, AV.und, AV.und, AV.und, AV.und, AV.und,
    AV.r (RV.c (CV.f (FV.i IntKind.u64 d.snd.snd.snd.snd.snd.snd.snd.fst))), AV.r (RV.c (CV.f (FV.b d.snd.snd.snd.snd.snd.snd.snd.snd.snd.fst))), AV.r (RV.c (CV.f (FV.b false))),
    AV.r (RV.c (CV.f (FV.i IntKind.u64 d.snd.snd.snd.snd.snd.snd.snd.fst))), AV.r (RV.c (CV.f (FV.i IntKind.u64 d.snd.snd.snd.fst))),
    AV.r (RV.c (CV.f (FV.i IntKind.u64 d.snd.snd.snd.snd.snd.snd.snd.snd.snd.snd.fst))), AV.r (RV.c (CV.f (FV.i IntKind.u64 d.snd.snd.snd.snd.snd.snd.snd.snd.fst))),
    AV.r (RV.c (CV.f (FV.i IntKind.u64 d.snd.snd.snd.snd.snd.snd.snd.snd.snd.snd.snd.fst))), AV.r (RV.c (CV.f (FV.i IntKind.u64 d.snd.snd.snd.snd.snd.fst))),
    AV.r (RV.c (CV.f (FV.i IntKind.u64 d.snd.snd.snd.snd.snd.snd.snd.snd.snd.snd.snd.snd.fst))), AV.r (RV.c (CV.f (FV.b d.snd.snd.snd.snd.snd.snd.snd.snd.snd.snd.snd.snd.snd))),
    AV.r (RV.c (CV.f (FV.b d.snd.snd.snd.snd.snd.snd.snd.snd.snd.snd.snd.snd.snd))), AV.und, AV.und, AV.und, AV.und, AV.und, AV.und, AV.und, AV.und, AV.und, AV.und, AV.und, AV.und, AV.und, AV.und,
    AV.und, AV.und, AV.und, AV.und, AV.und, AV.und, AV.und, AV.und, AV.und, AV.und, AV.und, AV.und, AV.tup [], AV.tup [], AV.tup [], AV.tup [], AV.tup [], AV.tup [], AV.tup [], AV.tup [], AV.und,
    AV.und, AV.und, AV.und, AV.und, AV.und, AV.und, AV.und, AV.und, AV.und, AV.und, AV.und, AV.und, AV.und, AV.und, AV.und, AV.und, AV.und, AV.und, AV.und, AV.und, AV.und]
  [] [])))) := by kernel_rfl
theorem it_math_bits_Div64_0 {ρ : Type} (x0 : Int) (x1 : Int) (x2 : Int) (x3 : Int) (x4 : Int) (x5 : Int) (x6 : Int) (x7 : Int) (x8 : Int) (K : AX → St → Option ρ) :
    iter (fun t => t.head 0 ⟨[⟨17, [0, 1, 3, 4, 5, 6, 7, 12, 17, 18, 19, 20, 21, 22, 23, 24, 25, 26, 27, 28, 29, 30, 31, 32, 33, 34, 35, 36, 37, 38, 39, 40, 41, 42, 43, 44, 45, 46, 47, 48, 49, 50, 51, 52, 53, 54, 55, 56, 57, 58, 59, 60, 61, 62, 63, 64, 65, 66, 67, 68, 69, 78, 79, 80, 81, 82, 83, 84, 85, 86, 87, 88, 89, 90, 91, 92, 93, 94, 95, 96, 97, 98, 99, 100, 101, 102, 103, 104, 113, 114, 115, 116, 117, 118, 119, 120, 121, 122, 123, 124, 125, 126, 127, 128, 129, 130, 131, 132, 133, 134, 70, 71, 72, 73, 74, 75, 76, 77], []⟩, ⟨24, [0, 1, 3, 4, 5, 6, 7, 11, 12, 13, 19, 20, 21, 22, 23, 24, 25, 26, 27, 28, 29, 30, 31, 32, 33, 34, 35, 36, 37, 38, 39, 40, 41, 42, 43, 44, 45, 46, 47, 48, 49, 50, 51, 52, 53, 54, 55, 56, 57, 58, 59, 60, 61, 62, 63, 64, 65, 66, 67, 68, 69, 70, 71, 72, 73, 74, 75, 76, 77, 78, 79, 80, 81, 82, 83, 84, 85, 86, 87, 88, 89, 90, 91, 92, 93, 94, 95, 96, 97, 98, 99, 100, 101, 102, 103, 104, 113, 114, 115, 116, 117, 118, 119, 120, 121, 122, 123, 124, 125, 126, 127, 128, 129, 130, 131, 132, 133, 134, 105, 106, 107, 108, 109, 110, 111, 112], []⟩], [⟨17, 0, @R_math_bits_Div64_0 (@L_math_bits_Div64_0)⟩, ⟨24, 0, @R_math_bits_Div64_1 (@L_math_bits_Div64_1)⟩], [], [], none⟩ (loopIn Try.prog 54 17)) (runC Try.prog (envOf [(89, F_math_bits_LeadingZeros64 f_math_bits_LeadingZeros64)]) ⟨[⟨17, [0, 1, 3, 4, 5, 6, 7, 12, 17, 18, 19, 20, 21, 22, 23, 24, 25, 26, 27, 28, 29, 30, 31, 32, 33, 34, 35, 36, 37, 38, 39, 40, 41, 42, 43, 44, 45, 46, 47, 48, 49, 50, 51, 52, 53, 54, 55, 56, 57, 58, 59, 60, 61, 62, 63, 64, 65, 66, 67, 68, 69, 78, 79, 80, 81, 82, 83, 84, 85, 86, 87, 88, 89, 90, 91, 92, 93, 94, 95, 96, 97, 98, 99, 100, 101, 102, 103, 104, 113, 114, 115, 116, 117, 118, 119, 120, 121, 122, 123, 124, 125, 126, 127, 128, 129, 130, 131, 132, 133, 134, 70, 71, 72, 73, 74, 75, 76, 77], []⟩, ⟨24, [0, 1, 3, 4, 5, 6, 7, 11, 12, 13, 19, 20, 21, 22, 23, 24, 25, 26, 27, 28, 29, 30, 31, 32, 33, 34, 35, 36, 37, 38, 39, 40, 41, 42, 43, 44, 45, 46, 47, 48, 49, 50, 51, 52, 53, 54, 55, 56, 57, 58, 59, 60, 61, 62, 63, 64, 65, 66, 67, 68, 69, 70, 71, 72, 73, 74, 75, 76, 77, 78, 79, 80, 81, 82, 83, 84, 85, 86, 87, 88, 89, 90, 91, 92, 93, 94, 95, 96, 97, 98, 99, 100, 101, 102, 103, 104, 113, 114, 115, 116, 117, 118, 119, 120, 121, 122, 123, 124, 125, 126, 127, 128, 129, 130, 131, 132, 133, 134, 105, 106, 107, 108, 109, 110, 111, 112], []⟩], [⟨17, 0, @R_math_bits_Div64_0 (@L_math_bits_Div64_0)⟩, ⟨24, 0, @R_math_bits_Div64_1 (@L_math_bits_Div64_1)⟩], [], [], none⟩ (tmpsOf Try.prog 54) 0 200 (loopIn Try.prog 54 17)) K 200
      (St.mk
    [AV.und, AV.und, AV.r (RV.c (CV.f (FV.i IntKind.u64 x0))), AV.und, AV.und, AV.und, AV.und, AV.und, AV.r (RV.c (CV.f (FV.i IntKind.u64 x1))), AV.r (RV.c (CV.f (FV.i IntKind.u64 x2))),
      AV.r (RV.c (CV.f (FV.i IntKind.u64 x3))), AV.r (RV.c (CV.f (FV.i IntKind.u64 x4))), AV.und, AV.r (RV.c (CV.f (FV.i IntKind.u64 x5))), AV.r (RV.c (CV.f (FV.i IntKind.u64 x6))),
      AV.r (RV.c (CV.f (FV.i IntKind.u64 x7))), AV.r (RV.c (CV.f (FV.i IntKind.u64 x8))), AV.und, AV.und, AV.und, AV.und, AV.und, AV.und, AV.und, AV.und, AV.und, AV.und, AV.und, AV.und, AV.und, AV.und,
      AV.und, AV.und, AV.und, AV.und, AV.und, AV.und, AV.und, AV.und, AV.und, AV.und, AV.und, AV.und, AV.und, AV.und, AV.und, AV.und, AV.und, AV.und, AV.und, AV.und, AV.und, AV.und, AV.und, AV.und,
      AV.und, AV.und, AV.und, AV.und, AV.und, AV.und, AV.und, AV.und, AV.und, AV.und, AV.und, AV.und, AV.und, AV.und, AV.und, AV.und, AV.und, AV.und, AV.und, AV.und, AV.und, AV.und, AV.und, AV.und,
      AV.und, AV.und, AV.und, AV.und, AV.und, AV.und, AV.und, AV.und, AV.und, AV.und, AV.und, AV.und, AV.und, AV.und, AV.und, AV.und, AV.und, AV.und, AV.und, AV.und, AV.und, AV.und, AV.und, AV.und,
      AV.und, AV.und, AV.tup [], AV.tup [], AV.tup [], AV.tup [], AV.tup [], AV.tup [], AV.tup [], AV.tup [], AV.und, AV.und, AV.und, AV.und, AV.und, AV.und, AV.und, AV.und, AV.und, AV.und, AV.und,
      AV.und, AV.und, AV.und, AV.und, AV.und, AV.und, AV.und, AV.und, AV.und, AV.und, AV.und]
    [] []) = L_math_bits_Div64_0 (x0, x1, x2, x3, x4, x5, x6, x7, x8) (Sum.elim (fun d => K (AX.ex 0) (St.mk
  [AV.und, AV.und, AV.r (RV.c (CV.f (FV.i IntKind.u64 d.fst))), AV.und, AV.und, AV.und, AV.und, AV.und, AV.r (RV.c (CV.f (FV.i IntKind.u64 d.snd.fst))),
    AV.r (RV.c (CV.f (FV.i IntKind.u64 d.snd.snd.fst))), AV.r (RV.c (CV.f (FV.i IntKind.u64 d.snd.snd.snd.fst))), AV.r (RV.c (CV.f (FV.i IntKind.u64 d.snd.snd.snd.snd.fst))), AV.und,
    AV.r (RV.c (CV.f (FV.i IntKind.u64 d.snd.snd.snd.snd.snd.fst))), AV.r (RV.c (CV.f (FV.i IntKind.u64 d.snd.snd.snd.snd.snd.snd.fst))),
    AV.r (RV.c (CV.f (FV.i IntKind.u64 d.snd.snd.snd.snd.snd.snd.snd.fst))), AV.r (RV.c (CV.f (FV.i IntKind.u64 d.snd.snd.snd.snd.snd.snd.snd.snd.fst))), AV.und, AV.und, AV.und, AV.und, AV.und,
    AV.und, AV.und, AV.und, AV.und, AV.und, AV.und, AV.und, AV.und, AV.und, AV.und, AV.und, AV.und, AV.und, AV.und, AV.und, AV.und, AV.und, AV.und, AV.und, AV.und, AV.und, AV.und, AV.und, AV.und,
    AV.und, AV.und, AV.und, AV.und, AV.und, AV.und, AV.und, AV.und, AV.und, AV.und, AV.und, AV.und, AV.und, AV.und, AV.und, AV.und, AV.und, AV.und, AV.und, AV.und, AV.und,
    AV.r (RV.c (CV.f (FV.i IntKind.u64 d.snd.snd.snd.snd.snd.snd.snd.snd.snd.fst))), AV.r (RV.c (CV.f (FV.b d.snd.snd.snd.snd.snd.snd.snd.snd.snd.snd.fst))), AV.r (RV.c (CV.f (FV.b true))), AV.tup [],
    AV.tup [], AV.tup [], AV.tup [], AV.tup [], AV.tup [], AV.tup [], AV.tup [], AV.r (RV.c (CV.f (FV.b true))), AV.r (RV.c (CV.f (FV.i IntKind.u64 d.snd.snd.snd.snd.snd.snd.snd.snd.snd.fst))),
    AV.r (RV.c (CV.f (FV.i IntKind.u64 d.snd.snd.snd.snd.snd.snd.snd.fst))), AV.r (RV.c (CV.f (FV.i IntKind.u64 d.snd.snd.snd.snd.snd.snd.snd.snd.snd.snd.snd.fst))),
    AV.r (RV.c (CV.f (FV.i IntKind.u64 d.snd.snd.fst))), AV.r (RV.c (CV.f (FV.i IntKind.u64 d.snd.snd.snd.snd.snd.snd.snd.snd.fst))),
    AV.r (RV.c (CV.f (FV.i IntKind.u64 d.snd.snd.snd.snd.snd.snd.snd.snd.fst))), AV.r (RV.c (CV.f (FV.b d.snd.snd.snd.snd.snd.snd.snd.snd.snd.snd.snd.snd))), AV.und, AV.und, AV.und, AV.und, AV.und,
    AV.und, AV.und, AV.und, AV.und, AV.und, AV.und, AV.und, AV.und, AV.und, AV.und, AV.und, AV.und, AV.und, AV.und, AV.tup [], AV.tup [], AV.tup [], AV.tup [], AV.tup [], AV.tup [], AV.tup [],
    AV.tup [], AV.und, AV.und, AV.und, AV.und, AV.und, AV.und, AV.und, AV.und, AV.und, AV.und, AV.und, AV.und, AV.und, AV.und, AV.und, AV.und, AV.und, AV.und, AV.und, AV.und, AV.und, AV.und]
  [] [])) (Sum.elim (fun d => K (AX.ex 0) (St.mk
  [AV.und, AV.und, AV.r (RV.c (CV.f (FV.i IntKind.u64 d.fst))), AV.und, AV.und, AV.und, AV.und, AV.und, AV.r (RV.c (CV.f (FV.i IntKind.u64 d.snd.fst))),
    AV.r (RV.c (CV.f (FV.i IntKind.u64 d.snd.snd.fst))), AV.r (RV.c (CV.f (FV.i IntKind.u64 d.snd.snd.snd.fst))), AV.r (RV.c (CV.f (FV.i IntKind.u64 d.snd.snd.snd.snd.fst))), AV.und,
    AV.r (RV.c (CV.f (FV.i IntKind.u64 d.snd.snd.snd.snd.snd.fst))), AV.r (RV.c (CV.f (FV.i IntKind.u64 d.snd.snd.snd.snd.snd.snd.fst))),
    AV.r (RV.c (CV.f (FV.i IntKind.u64 d.snd.snd.snd.snd.snd.snd.snd.fst))), AV.r (RV.c (CV.f (FV.i IntKind.u64 d.snd.snd.snd.snd.snd.snd.snd.snd.fst))), AV.und, AV.und, AV.und, AV.und, AV.und,
    AV.und, AV.und, AV.und, AV.und, AV.und, AV.und, AV.und, AV.und, AV.und, AV.und, AV.und, AV.und, AV.und, AV.und, AV.und, AV.und, AV.und, AV.und, AV.und, AV.und, AV.und, AV.und, AV.und, AV.und,
    AV.und, AV.und, AV.und, AV.und, AV.und, AV.und, AV.und, AV.und, AV.und, AV.und, AV.und, AV.und, AV.und, AV.und, AV.und, AV.und, AV.und, AV.und, AV.und, AV.und, AV.und,
    AV.r (RV.c (CV.f (FV.i IntKind.u64 d.snd.snd.snd.snd.snd.snd.snd.snd.snd.fst))), AV.r (RV.c (CV.f (FV.b d.snd.snd.snd.snd.snd.snd.snd.snd.snd.snd.fst))), AV.r (RV.c (CV.f (FV.b false))),
    AV.r (RV.c (CV.f (FV.i IntKind.u64 d.snd.snd.snd.snd.snd.snd.snd.snd.snd.fst))), AV.r (RV.c (CV.f (FV.i IntKind.u64 d.snd.snd.snd.fst))),
    AV.r (RV.c (CV.f (FV.i IntKind.u64 d.snd.snd.snd.snd.snd.snd.snd.snd.snd.snd.snd.fst))), AV.r (RV.c (CV.f (FV.i IntKind.u64 d.snd.snd.snd.snd.snd.snd.snd.snd.snd.snd.snd.snd.fst))),
    AV.r (RV.c (CV.f (FV.i IntKind.u64 d.snd.snd.snd.snd.snd.snd.snd.snd.snd.snd.snd.snd.snd.fst))), AV.r (RV.c (CV.f (FV.i IntKind.u64 d.snd.snd.snd.snd.snd.fst))),
    AV.r (RV.c (CV.f (FV.i IntKind.u64 d.snd.snd.snd.snd.snd.snd.snd.snd.snd.snd.snd.snd.snd.snd.fst))), AV.r (RV.c (CV.f (FV.b d.snd.snd.snd.snd.snd.snd.snd.snd.snd.snd.snd.snd.snd.snd.snd.fst))),
    AV.r (RV.c (CV.f (FV.b d.snd.snd.snd.snd.snd.snd.snd.snd.snd.snd.snd.snd.snd.snd.snd.fst))), AV.r (RV.c (CV.f (FV.i IntKind.u64 d.snd.snd.snd.snd.snd.snd.snd.snd.snd.fst))),
    AV.r (RV.c (CV.f (FV.i IntKind.u64 d.snd.snd.snd.snd.snd.snd.snd.fst))), AV.r (RV.c (CV.f (FV.i IntKind.u64 d.snd.snd.snd.snd.snd.snd.snd.snd.snd.snd.snd.snd.fst))),
    AV.r (RV.c (CV.f (FV.i IntKind.u64 d.snd.snd.fst))), AV.r (RV.c (CV.f (FV.i IntKind.u64 d.snd.snd.snd.snd.snd.snd.snd.snd.fst))),
    AV.r (RV.c (CV.f (FV.i IntKind.u64 d.snd.snd.snd.snd.snd.snd.snd.snd.fst))), AV.r (RV.c (CV.f (FV.b d.snd.snd.snd.snd.snd.snd.snd.snd.snd.snd.snd.snd.snd.snd.snd.snd))), AV.und, AV.und, AV.und,
    AV.und, AV.und, AV.und, AV.und, AV.und, AV.und, AV.und, AV.und, AV.und, AV.und, AV.und, AV.und, AV.und, AV.und, AV.und, AV.und, AV.tup [], AV.tup [], AV.tup [], AV.tup [], AV.tup [], AV.tup [],
    AV.tup [], AV.tup [], AV.und, AV.und, AV.und, AV.und, AV.und, AV.und, AV.und, AV.und, AV.und, AV.und, AV.und, AV.und, AV.und, AV.und, AV.und, AV.und, AV.und, AV.und, AV.und, AV.und, AV.und,
    AV.und]
  [] [])) (fun d => K (AX.ex 0) (St.mk
  [AV.und, AV.und, AV.r (RV.c (CV.f (FV.i IntKind.u64 d.fst))), AV.und, AV.und, AV.und, AV.und, AV.und, AV.r (RV.c (CV.f (FV.i IntKind.u64 d.snd.fst))),
    AV.r (RV.c (CV.f (FV.i IntKind.u64 d.snd.snd.fst))), AV.r (RV.c (CV.f (FV.i IntKind.u64 d.snd.snd.snd.fst))), AV.r (RV.c (CV.f (FV.i IntKind.u64 d.snd.snd.snd.snd.fst))), AV.und,
    AV.r (RV.c (CV.f (FV.i IntKind.u64 d.snd.snd.snd.snd.snd.fst))), AV.r (RV.c (CV.f (FV.i IntKind.u64 d.snd.snd.snd.snd.snd.snd.fst))),
    AV.r (RV.c (CV.f (FV.i IntKind.u64 d.snd.snd.snd.snd.snd.snd.snd.fst))), AV.r (RV.c (CV.f (FV.i IntKind.u64 d.snd.snd.snd.snd.snd.snd.snd.snd.fst))), AV.und, AV.und, AV.und, AV.und, AV.und,
    AV.und, AV.und, AV.und, AV.und, AV.und, AV.und, AV.und, AV.und, AV.und, AV.und, AV.und, AV.und, AV.und, AV.und, AV.und, AV.und, AV.und, AV.und, AV.und, AV.und, AV.und, AV.und, AV.und, AV.und,
    AV.und, AV.und, AV.und, AV.und, AV.und, AV.und, AV.und, AV.und, AV.und, AV.und, AV.und, AV.und, AV.und, AV.und, AV.und, AV.und, AV.und, AV.und, AV.und, AV.und, AV.und,
    AV.r (RV.c (CV.f (FV.i IntKind.u64 d.snd.snd.snd.snd.snd.snd.snd.fst))), AV.r (RV.c (CV.f (FV.b d.snd.snd.snd.snd.snd.snd.snd.snd.snd.fst))), AV.r (RV.c (CV.f (FV.b false))),
    AV.r (RV.c (CV.f (FV.i IntKind.u64 d.snd.snd.snd.snd.snd.snd.snd.fst))), AV.r (RV.c (CV.f (FV.i IntKind.u64 d.snd.snd.snd.fst))),
    AV.r (RV.c (CV.f (FV.i IntKind.u64 d.snd.snd.snd.snd.snd.snd.snd.snd.snd.snd.fst))), AV.r (RV.c (CV.f (FV.i IntKind.u64 d.snd.snd.snd.snd.snd.snd.snd.snd.fst))),
    AV.r (RV.c (CV.f (FV.i IntKind.u64 d.snd.snd.snd.snd.snd.snd.snd.snd.snd.snd.snd.fst))), AV.r (RV.c (CV.f (FV.i IntKind.u64 d.snd.snd.snd.snd.snd.fst))),
    AV.r (RV.c (CV.f (FV.i IntKind.u64 d.snd.snd.snd.snd.snd.snd.snd.snd.snd.snd.snd.snd.fst))), AV.r (RV.c (CV.f (FV.b d.snd.snd.snd.snd.snd.snd.snd.snd.snd.snd.snd.snd.snd))),
    AV.r (RV.c (CV.f (FV.b d.snd.snd.snd.snd.snd.snd.snd.snd.snd.snd.snd.snd.snd))), AV.und, AV.und, AV.und, AV.und, AV.und, AV.und, AV.und, AV.und, AV.und, AV.und, AV.und, AV.und, AV.und, AV.und,
    AV.und, AV.und, AV.und, AV.und, AV.und, AV.und, AV.und, AV.und, AV.und, AV.und, AV.und, AV.und, AV.tup [], AV.tup [], AV.tup [], AV.tup [], AV.tup [], AV.tup [], AV.tup [], AV.tup [], AV.und,
    AV.und, AV.und, AV.und, AV.und, AV.und, AV.und, AV.und, AV.und, AV.und, AV.und, AV.und, AV.und, AV.und, AV.und, AV.und, AV.und, AV.und, AV.und, AV.und, AV.und, AV.und]
  [] [])))) :=
  iter_loopX (emb := fun (d : Int × Int × Int × Int × Int × Int × Int × Int × Int) => St.mk
  [AV.und, AV.und, AV.r (RV.c (CV.f (FV.i IntKind.u64 d.fst))), AV.und, AV.und, AV.und, AV.und, AV.und, AV.r (RV.c (CV.f (FV.i IntKind.u64 d.snd.fst))),
    AV.r (RV.c (CV.f (FV.i IntKind.u64 d.snd.snd.fst))), AV.r (RV.c (CV.f (FV.i IntKind.u64 d.snd.snd.snd.fst))), AV.r (RV.c (CV.f (FV.i IntKind.u64 d.snd.snd.snd.snd.fst))), AV.und,
    AV.r (RV.c (CV.f (FV.i IntKind.u64 d.snd.snd.snd.snd.snd.fst))), AV.r (RV.c (CV.f (FV.i IntKind.u64 d.snd.snd.snd.snd.snd.snd.fst))),
    AV.r (RV.c (CV.f (FV.i IntKind.u64 d.snd.snd.snd.snd.snd.snd.snd.fst))), AV.r (RV.c (CV.f (FV.i IntKind.u64 d.snd.snd.snd.snd.snd.snd.snd.snd))), AV.und, AV.und, AV.und, AV.und, AV.und, AV.und,
    AV.und, AV.und, AV.und, AV.und, AV.und, AV.und, AV.und, AV.und, AV.und, AV.und, AV.und, AV.und, AV.und, AV.und, AV.und, AV.und, AV.und, AV.und, AV.und, AV.und, AV.und, AV.und, AV.und, AV.und,
    AV.und, AV.und, AV.und, AV.und, AV.und, AV.und, AV.und, AV.und, AV.und, AV.und, AV.und, AV.und, AV.und, AV.und, AV.und, AV.und, AV.und, AV.und, AV.und, AV.und, AV.und, AV.und, AV.und, AV.und,
    AV.und, AV.und, AV.und, AV.und, AV.und, AV.und, AV.und, AV.und, AV.und, AV.und, AV.und, AV.und, AV.und, AV.und, AV.und, AV.und, AV.und, AV.und, AV.und, AV.und, AV.und, AV.und, AV.und, AV.und,
    AV.und, AV.und, AV.und, AV.und, AV.und, AV.und, AV.und, AV.und, AV.und, AV.und, AV.tup [], AV.tup [], AV.tup [], AV.tup [], AV.tup [], AV.tup [], AV.tup [], AV.tup [], AV.und, AV.und, AV.und,
    AV.und, AV.und, AV.und, AV.und, AV.und, AV.und, AV.und, AV.und, AV.und, AV.und, AV.und, AV.und, AV.und, AV.und, AV.und, AV.und, AV.und, AV.und, AV.und]
  [] []) (step := fun d c x => S_math_bits_Div64_0 f_math_bits_LeadingZeros64  d.1 d.2.1 d.2.2.1 d.2.2.2.1 d.2.2.2.2.1 d.2.2.2.2.2.1 d.2.2.2.2.2.2.1 d.2.2.2.2.2.2.2.1 d.2.2.2.2.2.2.2.2 c x) (kx := (Sum.elim (fun d => K (AX.ex 0) (St.mk
  [AV.und, AV.und, AV.r (RV.c (CV.f (FV.i IntKind.u64 d.fst))), AV.und, AV.und, AV.und, AV.und, AV.und, AV.r (RV.c (CV.f (FV.i IntKind.u64 d.snd.fst))),
    AV.r (RV.c (CV.f (FV.i IntKind.u64 d.snd.snd.fst))), AV.r (RV.c (CV.f (FV.i IntKind.u64 d.snd.snd.snd.fst))), AV.r (RV.c (CV.f (FV.i IntKind.u64 d.snd.snd.snd.snd.fst))), AV.und,
    AV.r (RV.c (CV.f (FV.i IntKind.u64 d.snd.snd.snd.snd.snd.fst))), AV.r (RV.c (CV.f (FV.i IntKind.u64 d.snd.snd.snd.snd.snd.snd.fst))),
    AV.r (RV.c (CV.f (FV.i IntKind.u64 d.snd.snd.snd.snd.snd.snd.snd.fst))), AV.r (RV.c (CV.f (FV.i IntKind.u64 d.snd.snd.snd.snd.snd.snd.snd.snd.fst))), AV.und, AV.und, AV.und, AV.und, AV.und,
    AV.und, AV.und, AV.und, AV.und, AV.und, AV.und, AV.und, AV.und, AV.und, AV.und, AV.und, AV.und, AV.und, AV.und, AV.und, AV.und, AV.und, AV.und, AV.und, AV.und, AV.und, AV.und, AV.und, AV.und,
    AV.und, AV.und, AV.und, AV.und, AV.und, AV.und, AV.und, AV.und, AV.und, AV.und, AV.und, AV.und, AV.und, AV.und, AV.und, AV.und, AV.und, AV.und, AV.und, AV.und, AV.und,
    AV.r (RV.c (CV.f (FV.i IntKind.u64 d.snd.snd.snd.snd.snd.snd.snd.snd.snd.fst))), AV.r (RV.c (CV.f (FV.b d.snd.snd.snd.snd.snd.snd.snd.snd.snd.snd.fst))), AV.r (RV.c (CV.f (FV.b true))), AV.tup [],
    AV.tup [], AV.tup [], AV.tup [], AV.tup [], AV.tup [], AV.tup [], AV.tup [], AV.r (RV.c (CV.f (FV.b true))), AV.r (RV.c (CV.f (FV.i IntKind.u64 d.snd.snd.snd.snd.snd.snd.snd.snd.snd.fst))),
    AV.r (RV.c (CV.f (FV.i IntKind.u64 d.snd.snd.snd.snd.snd.snd.snd.fst))), AV.r (RV.c (CV.f (FV.i IntKind.u64 d.snd.snd.snd.snd.snd.snd.snd.snd.snd.snd.snd.fst))),
    AV.r (RV.c (CV.f (FV.i IntKind.u64 d.snd.snd.fst))), AV.r (RV.c (CV.f (FV.i IntKind.u64 d.snd.snd.snd.snd.snd.snd.snd.snd.fst))),
    AV.r (RV.c (CV.f (FV.i IntKind.u64 d.snd.snd.snd.snd.snd.snd.snd.snd.fst))), AV.r (RV.c (CV.f (FV.b d.snd.snd.snd.snd.snd.snd.snd.snd.snd.snd.snd.snd))), AV.und, AV.und, AV.und, AV.und, AV.und,
    AV.und, AV.und, AV.und, AV.und, AV.und, AV.und, AV.und, AV.und, AV.und, AV.und, AV.und, AV.und, AV.und, AV.und, AV.tup [], AV.tup [], AV.tup [], AV.tup [], AV.tup [], AV.tup [], AV.tup [],
    AV.tup [], AV.und, AV.und, AV.und, AV.und, AV.und, AV.und, AV.und, AV.und, AV.und, AV.und, AV.und, AV.und, AV.und, AV.und, AV.und, AV.und, AV.und, AV.und, AV.und, AV.und, AV.und, AV.und]
  [] [])) (Sum.elim (fun d => K (AX.ex 0) (St.mk
  [AV.und, AV.und, AV.r (RV.c (CV.f (FV.i IntKind.u64 d.fst))), AV.und, AV.und, AV.und, AV.und, AV.und, AV.r (RV.c (CV.f (FV.i IntKind.u64 d.snd.fst))),
    AV.r (RV.c (CV.f (FV.i IntKind.u64 d.snd.snd.fst))), AV.r (RV.c (CV.f (FV.i IntKind.u64 d.snd.snd.snd.fst))), AV.r (RV.c (CV.f (FV.i IntKind.u64 d.snd.snd.snd.snd.fst))), AV.und,
    AV.r (RV.c (CV.f (FV.i IntKind.u64 d.snd.snd.snd.snd.snd.fst))), AV.r (RV.c (CV.f (FV.i IntKind.u64 d.snd.snd.snd.snd.snd.snd.fst))),
    AV.r (RV.c (CV.f (FV.i IntKind.u64 d.snd.snd.snd.snd.snd.snd.snd.fst))), AV.r (RV.c (CV.f (FV.i IntKind.u64 d.snd.snd.snd.snd.snd.snd.snd.snd.fst))), AV.und, AV.und, AV.und, AV.und, AV.und,
    AV.und, AV.und, AV.und, AV.und, AV.und, AV.und, AV.und, AV.und, AV.und, AV.und, AV.und, AV.und, AV.und, AV.und, AV.und, AV.und, AV.und, AV.und, AV.und, AV.und, AV.und, AV.und, AV.und, AV.und,
    AV.und, AV.und, AV.und, AV.und, AV.und, AV.und, AV.und, AV.und, AV.und, AV.und, AV.und, AV.und, AV.und, AV.und, AV.und, AV.und, AV.und, AV.und, AV.und, AV.und, AV.und,
    AV.r (RV.c (CV.f (FV.i IntKind.u64 d.snd.snd.snd.snd.snd.snd.snd.snd.snd.fst))), AV.r (RV.c (CV.f (FV.b d.snd.snd.snd.snd.snd.snd.snd.snd.snd.snd.fst))), AV.r (RV.c (CV.f (FV.b false))),
    AV.r (RV.c (CV.f (FV.i IntKind.u64 d.snd.snd.snd.snd.snd.snd.snd.snd.snd.fst))), AV.r (RV.c (CV.f (FV.i IntKind.u64 d.snd.snd.snd.fst))),
    AV.r (RV.c (CV.f (FV.i IntKind.u64 d.snd.snd.snd.snd.snd.snd.snd.snd.snd.snd.snd.fst))), AV.r (RV.c (CV.f (FV.i IntKind.u64 d.snd.snd.snd.snd.snd.snd.snd.snd.snd.snd.snd.snd.fst))),
    AV.r (RV.c (CV.f (FV.i IntKind.u64 d.snd.snd.snd.snd.snd.snd.snd.snd.snd.snd.snd.snd.snd.fst))), AV.r (RV.c (CV.f (FV.i IntKind.u64 d.snd.snd.snd.snd.snd.fst))),
    AV.r (RV.c (CV.f (FV.i IntKind.u64 d.snd.snd.snd.snd.snd.snd.snd.snd.snd.snd.snd.snd.snd.snd.fst))), AV.r (RV.c (CV.f (FV.b d.snd.snd.snd.snd.snd.snd.snd.snd.snd.snd.snd.snd.snd.snd.snd.fst))),
    AV.r (RV.c (CV.f (FV.b d.snd.snd.snd.snd.snd.snd.snd.snd.snd.snd.snd.snd.snd.snd.snd.fst))), AV.r (RV.c (CV.f (FV.i IntKind.u64 d.snd.snd.snd.snd.snd.snd.snd.snd.snd.fst))),
    AV.r (RV.c (CV.f (FV.i IntKind.u64 d.snd.snd.snd.snd.snd.snd.snd.fst))), AV.r (RV.c (CV.f (FV.i IntKind.u64 d.snd.snd.snd.snd.snd.snd.snd.snd.snd.snd.snd.snd.fst))),
    AV.r (RV.c (CV.f (FV.i IntKind.u64 d.snd.snd.fst))), AV.r (RV.c (CV.f (FV.i IntKind.u64 d.snd.snd.snd.snd.snd.snd.snd.snd.fst))),
    AV.r (RV.c (CV.f (FV.i IntKind.u64 d.snd.snd.snd.snd.snd.snd.snd.snd.fst))), AV.r (RV.c (CV.f (FV.b d.snd.snd.snd.snd.snd.snd.snd.snd.snd.snd.snd.snd.snd.snd.snd.snd))), AV.und, AV.und, AV.und,
    AV.und, AV.und, AV.und, AV.und, AV.und, AV.und, AV.und, AV.und, AV.und, AV.und, AV.und, AV.und, AV.und, AV.und, AV.und, AV.und, AV.tup [], AV.tup [], AV.tup [], AV.tup [], AV.tup [], AV.tup [],
    AV.tup [], AV.tup [], AV.und, AV.und, AV.und, AV.und, AV.und, AV.und, AV.und, AV.und, AV.und, AV.und, AV.und, AV.und, AV.und, AV.und, AV.und, AV.und, AV.und, AV.und, AV.und, AV.und, AV.und,
    AV.und]
  [] [])) (fun d => K (AX.ex 0) (St.mk
  [AV.und, AV.und, AV.r (RV.c (CV.f (FV.i IntKind.u64 d.fst))), AV.und, AV.und, AV.und, AV.und, AV.und, AV.r (RV.c (CV.f (FV.i IntKind.u64 d.snd.fst))),
    AV.r (RV.c (CV.f (FV.i IntKind.u64 d.snd.snd.fst))), AV.r (RV.c (CV.f (FV.i IntKind.u64 d.snd.snd.snd.fst))), AV.r (RV.c (CV.f (FV.i IntKind.u64 d.snd.snd.snd.snd.fst))), AV.und,
    AV.r (RV.c (CV.f (FV.i IntKind.u64 d.snd.snd.snd.snd.snd.fst))), AV.r (RV.c (CV.f (FV.i IntKind.u64 d.snd.snd.snd.snd.snd.snd.fst))),
    AV.r (RV.c (CV.f (FV.i IntKind.u64 d.snd.snd.snd.snd.snd.snd.snd.fst))), AV.r (RV.c (CV.f (FV.i IntKind.u64 d.snd.snd.snd.snd.snd.snd.snd.snd.fst))), AV.und, AV.und, AV.und, AV.und, AV.und,
    AV.und, AV.und, AV.und, AV.und, AV.und, AV.und, AV.und, AV.und, AV.und, AV.und, AV.und, AV.und, AV.und, AV.und, AV.und, AV.und, AV.und, AV.und, AV.und, AV.und, AV.und, AV.und, AV.und, AV.und,
    AV.und, AV.und, AV.und, AV.und, AV.und, AV.und, AV.und, AV.und, AV.und, AV.und, AV.und, AV.und, AV.und, AV.und, AV.und, AV.und, AV.und, AV.und, AV.und, AV.und, AV.und,
    AV.r (RV.c (CV.f (FV.i IntKind.u64 d.snd.snd.snd.snd.snd.snd.snd.fst))), AV.r (RV.c (CV.f (FV.b d.snd.snd.snd.snd.snd.snd.snd.snd.snd.fst))), AV.r (RV.c (CV.f (FV.b false))),
    AV.r (RV.c (CV.f (FV.i IntKind.u64 d.snd.snd.snd.snd.snd.snd.snd.fst))), AV.r (RV.c (CV.f (FV.i IntKind.u64 d.snd.snd.snd.fst))),
    AV.r (RV.c (CV.f (FV.i IntKind.u64 d.snd.snd.snd.snd.snd.snd.snd.snd.snd.snd.fst))), AV.r (RV.c (CV.f (FV.i IntKind.u64 d.snd.snd.snd.snd.snd.snd.snd.snd.fst))),
    AV.r (RV.c (CV.f (FV.i IntKind.u64 d.snd.snd.snd.snd.snd.snd.snd.snd.snd.snd.snd.fst))), AV.r (RV.c (CV.f (FV.i IntKind.u64 d.snd.snd.snd.snd.snd.fst))),
    AV.r (RV.c (CV.f (FV.i IntKind.u64 d.snd.snd.snd.snd.snd.snd.snd.snd.snd.snd.snd.snd.fst))), AV.r (RV.c (CV.f (FV.b d.snd.snd.snd.snd.snd.snd.snd.snd.snd.snd.snd.snd.snd))),
    AV.r (RV.c (CV.f (FV.b d.snd.snd.snd.snd.snd.snd.snd.snd.snd.snd.snd.snd.snd))), AV.und, AV.und, AV.und, AV.und, AV.und, AV.und, AV.und, AV.und, AV.und, AV.und, AV.und, AV.und, AV.und, AV.und,
    AV.und, AV.und, AV.und, AV.und, AV.und, AV.und, AV.und, AV.und, AV.und, AV.und, AV.und, AV.und, AV.tup [], AV.tup [], AV.tup [], AV.tup [], AV.tup [], AV.tup [], AV.tup [], AV.tup [], AV.und,
    AV.und, AV.und, AV.und, AV.und, AV.und, AV.und, AV.und, AV.und, AV.und, AV.und, AV.und, AV.und, AV.und, AV.und, AV.und, AV.und, AV.und, AV.und, AV.und, AV.und, AV.und]
  [] [])))))
    (fun d c => ds_math_bits_Div64_0 f_math_bits_LeadingZeros64 (@L_math_bits_Div64_0) (@L_math_bits_Div64_1) d.1 d.2.1 d.2.2.1 d.2.2.2.1 d.2.2.2.2.1 d.2.2.2.2.2.1 d.2.2.2.2.2.2.1 d.2.2.2.2.2.2.2.1 d.2.2.2.2.2.2.2.2 c K) 200 (x0, x1, x2, x3, x4, x5, x6, x7, x8)
theorem so_math_bits_Div64_0 : ∀ kk, SumOK Try.prog (envOf [(89, F_math_bits_LeadingZeros64 f_math_bits_LeadingZeros64)]) ⟨[⟨17, [0, 1, 3, 4, 5, 6, 7, 12, 17, 18, 19, 20, 21, 22, 23, 24, 25, 26, 27, 28, 29, 30, 31, 32, 33, 34, 35, 36, 37, 38, 39, 40, 41, 42, 43, 44, 45, 46, 47, 48, 49, 50, 51, 52, 53, 54, 55, 56, 57, 58, 59, 60, 61, 62, 63, 64, 65, 66, 67, 68, 69, 78, 79, 80, 81, 82, 83, 84, 85, 86, 87, 88, 89, 90, 91, 92, 93, 94, 95, 96, 97, 98, 99, 100, 101, 102, 103, 104, 113, 114, 115, 116, 117, 118, 119, 120, 121, 122, 123, 124, 125, 126, 127, 128, 129, 130, 131, 132, 133, 134, 70, 71, 72, 73, 74, 75, 76, 77], []⟩, ⟨24, [0, 1, 3, 4, 5, 6, 7, 11, 12, 13, 19, 20, 21, 22, 23, 24, 25, 26, 27, 28, 29, 30, 31, 32, 33, 34, 35, 36, 37, 38, 39, 40, 41, 42, 43, 44, 45, 46, 47, 48, 49, 50, 51, 52, 53, 54, 55, 56, 57, 58, 59, 60, 61, 62, 63, 64, 65, 66, 67, 68, 69, 70, 71, 72, 73, 74, 75, 76, 77, 78, 79, 80, 81, 82, 83, 84, 85, 86, 87, 88, 89, 90, 91, 92, 93, 94, 95, 96, 97, 98, 99, 100, 101, 102, 103, 104, 113, 114, 115, 116, 117, 118, 119, 120, 121, 122, 123, 124, 125, 126, 127, 128, 129, 130, 131, 132, 133, 134, 105, 106, 107, 108, 109, 110, 111, 112], []⟩], [⟨17, 0, @R_math_bits_Div64_0 (@L_math_bits_Div64_0)⟩, ⟨24, 0, @R_math_bits_Div64_1 (@L_math_bits_Div64_1)⟩], [], [], none⟩ (tmpsOf Try.prog 54) kk 200 (loopIn Try.prog 54 17) :=
  SumOK.of (id := 17) (k0 := 0) (run := @R_math_bits_Div64_0 (@L_math_bits_Div64_0)) (by kernel_rfl) fun s K r hr => by
    unfold R_math_bits_Div64_0 at hr
    obtain ⟨b, hb, hr1⟩ := Option.bind_eq_some_iff.1 hr
    have e := ((Q_math_bits_Div64_0).ok s b hb).trans (q_math_bits_Div64_0 b)
    subst e
    exact ⟨200, (it_math_bits_Div64_0 b.1.2.2.1 b.1.2.2.2.2.2.2.2.2.1 b.1.2.2.2.2.2.2.2.2.2.1 b.1.2.2.2.2.2.2.2.2.2.2.1 b.1.2.2.2.2.2.2.2.2.2.2.2.1 b.1.2.2.2.2.2.2.2.2.2.2.2.2.2.1 b.1.2.2.2.2.2.2.2.2.2.2.2.2.2.2.1 b.1.2.2.2.2.2.2.2.2.2.2.2.2.2.2.2.1 b.1.2.2.2.2.2.2.2.2.2.2.2.2.2.2.2.2.1 K).trans hr1⟩
theorem ds_math_bits_Div64_1 {ρ : Type} (g_math_bits_LeadingZeros64 : Int → Option Int) (l_0 : ∀ {ρ : Type}, (Int × Int × Int × Int × Int × Int × Int × Int × Int) → ((Int × Int × Int × Int × Int × Int × Int × Int × Int × Int × Bool × Int × Bool ⊕
  Int × Int × Int × Int × Int × Int × Int × Int × Int × Int × Bool × Int × Int × Int × Int × Bool × Bool ⊕ Int × Int × Int × Int × Int × Int × Int × Int × Int × Bool × Int × Int × Int × Bool) → Option ρ) → Option ρ) (l_1 : ∀ {ρ : Type}, (Int × Int × Int × Int × Int × Int × Int × Int × Int) → ((Int × Int × Int × Int × Int × Int × Int × Int × Int × Int × Bool × Int × Bool ⊕
  Int × Int × Int × Int × Int × Int × Int × Int × Int × Int × Bool × Int × Int × Int × Int × Bool × Bool ⊕ Int × Int × Int × Int × Int × Int × Int × Int × Int × Bool × Int × Int × Int × Bool) → Option ρ) → Option ρ) (x0 : Int) (x1 : Int) (x2 : Int) (x3 : Int) (x4 : Int) (x5 : Int) (x6 : Int) (x7 : Int) (x8 : Int) (c : St → Option ρ) (K : AX → St → Option ρ) :
    runC Try.prog (envOf [(89, F_math_bits_LeadingZeros64 g_math_bits_LeadingZeros64)]) ⟨[⟨17, [0, 1, 3, 4, 5, 6, 7, 12, 17, 18, 19, 20, 21, 22, 23, 24, 25, 26, 27, 28, 29, 30, 31, 32, 33, 34, 35, 36, 37, 38, 39, 40, 41, 42, 43, 44, 45, 46, 47, 48, 49, 50, 51, 52, 53, 54, 55, 56, 57, 58, 59, 60, 61, 62, 63, 64, 65, 66, 67, 68, 69, 78, 79, 80, 81, 82, 83, 84, 85, 86, 87, 88, 89, 90, 91, 92, 93, 94, 95, 96, 97, 98, 99, 100, 101, 102, 103, 104, 113, 114, 115, 116, 117, 118, 119, 120, 121, 122, 123, 124, 125, 126, 127, 128, 129, 130, 131, 132, 133, 134, 70, 71, 72, 73, 74, 75, 76, 77], []⟩, ⟨24, [0, 1, 3, 4, 5, 6, 7, 11, 12, 13, 19, 20, 21, 22, 23, 24, 25, 26, 27, 28, 29, 30, 31, 32, 33, 34, 35, 36, 37, 38, 39, 40, 41, 42, 43, 44, 45, 46, 47, 48, 49, 50, 51, 52, 53, 54, 55, 56, 57, 58, 59, 60, 61, 62, 63, 64, 65, 66, 67, 68, 69, 70, 71, 72, 73, 74, 75, 76, 77, 78, 79, 80, 81, 82, 83, 84, 85, 86, 87, 88, 89, 90, 91, 92, 93, 94, 95, 96, 97, 98, 99, 100, 101, 102, 103, 104, 113, 114, 115, 116, 117, 118, 119, 120, 121, 122, 123, 124, 125, 126, 127, 128, 129, 130, 131, 132, 133, 134, 105, 106, 107, 108, 109, 110, 111, 112], []⟩], [⟨17, 0, @R_math_bits_Div64_0 (@l_0)⟩, ⟨24, 0, @R_math_bits_Div64_1 (@l_1)⟩], [], [], none⟩ (tmpsOf Try.prog 54) 0 200 (loopIn Try.prog 54 24)
      (St.mk
    [AV.und, AV.und, AV.r (RV.c (CV.f (FV.i IntKind.u64 x0))), AV.und, AV.und, AV.und, AV.und, AV.und, AV.r (RV.c (CV.f (FV.i IntKind.u64 x1))), AV.r (RV.c (CV.f (FV.i IntKind.u64 x2))),
      AV.r (RV.c (CV.f (FV.i IntKind.u64 x3))), AV.und, AV.und, AV.und, AV.r (RV.c (CV.f (FV.i IntKind.u64 x4))), AV.r (RV.c (CV.f (FV.i IntKind.u64 x5))), AV.r (RV.c (CV.f (FV.i IntKind.u64 x6))),
      AV.r (RV.c (CV.f (FV.i IntKind.u64 x7))), AV.r (RV.c (CV.f (FV.i IntKind.u64 x8))), AV.und, AV.und, AV.und, AV.und, AV.und, AV.und, AV.und, AV.und, AV.und, AV.und, AV.und, AV.und, AV.und, AV.und,
      AV.und, AV.und, AV.und, AV.und, AV.und, AV.und, AV.und, AV.und, AV.und, AV.und, AV.und, AV.und, AV.und, AV.und, AV.und, AV.und, AV.und, AV.und, AV.und, AV.und, AV.und, AV.und, AV.und, AV.und,
      AV.und, AV.und, AV.und, AV.und, AV.und, AV.und, AV.und, AV.und, AV.und, AV.und, AV.und, AV.und, AV.und, AV.und, AV.und, AV.und, AV.und, AV.und, AV.und, AV.und, AV.und, AV.und, AV.und, AV.und,
      AV.und, AV.und, AV.und, AV.und, AV.und, AV.und, AV.und, AV.und, AV.und, AV.und, AV.und, AV.und, AV.und, AV.und, AV.und, AV.und, AV.und, AV.und, AV.und, AV.und, AV.und, AV.und, AV.und, AV.und,
      AV.und, AV.und, AV.und, AV.und, AV.und, AV.und, AV.und, AV.und, AV.und, AV.und, AV.und, AV.und, AV.und, AV.und, AV.und, AV.und, AV.und, AV.und, AV.und, AV.und, AV.und, AV.und, AV.und, AV.und,
      AV.und, AV.und, AV.und, AV.und, AV.und, AV.und]
    [] [])
      (next (fun t => t.head 0 ⟨[⟨17, [0, 1, 3, 4, 5, 6, 7, 12, 17, 18, 19, 20, 21, 22, 23, 24, 25, 26, 27, 28, 29, 30, 31, 32, 33, 34, 35, 36, 37, 38, 39, 40, 41, 42, 43, 44, 45, 46, 47, 48, 49, 50, 51, 52, 53, 54, 55, 56, 57, 58, 59, 60, 61, 62, 63, 64, 65, 66, 67, 68, 69, 78, 79, 80, 81, 82, 83, 84, 85, 86, 87, 88, 89, 90, 91, 92, 93, 94, 95, 96, 97, 98, 99, 100, 101, 102, 103, 104, 113, 114, 115, 116, 117, 118, 119, 120, 121, 122, 123, 124, 125, 126, 127, 128, 129, 130, 131, 132, 133, 134, 70, 71, 72, 73, 74, 75, 76, 77], []⟩, ⟨24, [0, 1, 3, 4, 5, 6, 7, 11, 12, 13, 19, 20, 21, 22, 23, 24, 25, 26, 27, 28, 29, 30, 31, 32, 33, 34, 35, 36, 37, 38, 39, 40, 41, 42, 43, 44, 45, 46, 47, 48, 49, 50, 51, 52, 53, 54, 55, 56, 57, 58, 59, 60, 61, 62, 63, 64, 65, 66, 67, 68, 69, 70, 71, 72, 73, 74, 75, 76, 77, 78, 79, 80, 81, 82, 83, 84, 85, 86, 87, 88, 89, 90, 91, 92, 93, 94, 95, 96, 97, 98, 99, 100, 101, 102, 103, 104, 113, 114, 115, 116, 117, 118, 119, 120, 121, 122, 123, 124, 125, 126, 127, 128, 129, 130, 131, 132, 133, 134, 105, 106, 107, 108, 109, 110, 111, 112], []⟩], [⟨17, 0, @R_math_bits_Div64_0 (@l_0)⟩, ⟨24, 0, @R_math_bits_Div64_1 (@l_1)⟩], [], [], none⟩ (loopIn Try.prog 54 24)) c K) =
    S_math_bits_Div64_1 g_math_bits_LeadingZeros64  x0 x1 x2 x3 x4 x5 x6 x7 x8 (fun d => c (St.mk
  [AV.und, AV.und, AV.r (RV.c (CV.f (FV.i IntKind.u64 d.fst))), AV.und, AV.und, AV.und, AV.und, AV.und, AV.r (RV.c (CV.f (FV.i IntKind.u64 d.snd.fst))),
    AV.r (RV.c (CV.f (FV.i IntKind.u64 d.snd.snd.fst))), AV.r (RV.c (CV.f (FV.i IntKind.u64 d.snd.snd.snd.fst))), AV.und, AV.und, AV.und, AV.r (RV.c (CV.f (FV.i IntKind.u64 d.snd.snd.snd.snd.fst))),
    AV.r (RV.c (CV.f (FV.i IntKind.u64 d.snd.snd.snd.snd.snd.fst))), AV.r (RV.c (CV.f (FV.i IntKind.u64 d.snd.snd.snd.snd.snd.snd.fst))),
    AV.r (RV.c (CV.f (FV.i IntKind.u64 d.snd.snd.snd.snd.snd.snd.snd.fst))), AV.r (RV.c (CV.f (FV.i IntKind.u64 d.snd.snd.snd.snd.snd.snd.snd.snd))), AV.und, AV.und, AV.und, AV.und, AV.und, AV.und,
    AV.und, AV.und, AV.und, AV.und, AV.und, AV.und, AV.und, AV.und, AV.und, AV.und, AV.und, AV.und, AV.und, AV.und, AV.und, AV.und, AV.und, AV.und, AV.und, AV.und, AV.und, AV.und, AV.und, AV.und,
    AV.und, AV.und, AV.und, AV.und, AV.und, AV.und, AV.und, AV.und, AV.und, AV.und, AV.und, AV.und, AV.und, AV.und, AV.und, AV.und, AV.und, AV.und, AV.und, AV.und, AV.und, AV.und, AV.und, AV.und,
    AV.und, AV.und, AV.und, AV.und, AV.und, AV.und, AV.und, AV.und, AV.und, AV.und, AV.und, AV.und, AV.und, AV.und, AV.und, AV.und, AV.und, AV.und, AV.und, AV.und, AV.und, AV.und, AV.und, AV.und,
    AV.und, AV.und, AV.und, AV.und, AV.und, AV.und, AV.und, AV.und, AV.und, AV.und, AV.und, AV.und, AV.und, AV.und, AV.und, AV.und, AV.und, AV.und, AV.und, AV.und, AV.und, AV.und, AV.und, AV.und,
    AV.und, AV.und, AV.und, AV.und, AV.und, AV.und, AV.und, AV.und, AV.und, AV.und, AV.und, AV.und, AV.und, AV.und]
  [] [])) (Sum.elim (fun d => K (AX.ex 2) (St.mk
  [AV.und, AV.und, AV.r (RV.c (CV.f (FV.i IntKind.u64 d.fst))), AV.und, AV.und, AV.und, AV.und, AV.und, AV.r (RV.c (CV.f (FV.i IntKind.u64 d.snd.fst))),
    AV.r (RV.c (CV.f (FV.i IntKind.u64 d.snd.snd.fst))), AV.r (RV.c (CV.f (FV.i IntKind.u64 d.snd.snd.snd.fst))), AV.und, AV.und, AV.und, AV.r (RV.c (CV.f (FV.i IntKind.u64 d.snd.snd.snd.snd.fst))),
    AV.r (RV.c (CV.f (FV.i IntKind.u64 d.snd.snd.snd.snd.snd.fst))), AV.r (RV.c (CV.f (FV.i IntKind.u64 d.snd.snd.snd.snd.snd.snd.fst))),
    AV.r (RV.c (CV.f (FV.i IntKind.u64 d.snd.snd.snd.snd.snd.snd.snd.fst))), AV.r (RV.c (CV.f (FV.i IntKind.u64 d.snd.snd.snd.snd.snd.snd.snd.snd.fst))), AV.und, AV.und, AV.und, AV.und, AV.und,
    AV.und, AV.und, AV.und, AV.und, AV.und, AV.und, AV.und, AV.und, AV.und, AV.und, AV.und, AV.und, AV.und, AV.und, AV.und, AV.und, AV.und, AV.und, AV.und, AV.und, AV.und, AV.und, AV.und, AV.und,
    AV.und, AV.und, AV.und, AV.und, AV.und, AV.und, AV.und, AV.und, AV.und, AV.und, AV.und, AV.und, AV.und, AV.und, AV.und, AV.und, AV.und, AV.und, AV.und, AV.und, AV.und, AV.und, AV.und, AV.und,
    AV.und, AV.und, AV.und, AV.und, AV.und, AV.und, AV.und, AV.und, AV.und, AV.und, AV.und, AV.und, AV.und, AV.und, AV.und, AV.und, AV.und, AV.und, AV.und, AV.und, AV.und, AV.und, AV.und, AV.und,
    AV.und, AV.und, AV.und, AV.und, AV.und, AV.und, AV.r (RV.c (CV.f (FV.i IntKind.u64 d.snd.snd.snd.snd.snd.snd.snd.snd.snd.fst))),
    AV.r (RV.c (CV.f (FV.b d.snd.snd.snd.snd.snd.snd.snd.snd.snd.snd.fst))), AV.r (RV.c (CV.f (FV.b true))), AV.tup [], AV.tup [], AV.tup [], AV.tup [], AV.tup [], AV.tup [], AV.tup [], AV.tup [],
    AV.r (RV.c (CV.f (FV.b true))), AV.r (RV.c (CV.f (FV.i IntKind.u64 d.snd.snd.snd.snd.snd.snd.snd.snd.snd.fst))), AV.r (RV.c (CV.f (FV.i IntKind.u64 d.snd.snd.snd.snd.snd.snd.snd.snd.fst))),
    AV.r (RV.c (CV.f (FV.i IntKind.u64 d.snd.snd.snd.snd.snd.snd.snd.snd.snd.snd.snd.fst))), AV.r (RV.c (CV.f (FV.i IntKind.u64 d.snd.snd.fst))),
    AV.r (RV.c (CV.f (FV.i IntKind.u64 d.snd.snd.snd.snd.snd.snd.fst))), AV.r (RV.c (CV.f (FV.i IntKind.u64 d.snd.snd.snd.snd.snd.snd.fst))),
    AV.r (RV.c (CV.f (FV.b d.snd.snd.snd.snd.snd.snd.snd.snd.snd.snd.snd.snd))), AV.und, AV.und, AV.und, AV.und, AV.und, AV.und, AV.und, AV.und, AV.und, AV.und, AV.und, AV.und, AV.und, AV.und]
  [] [])) (Sum.elim (fun d => K (AX.ex 2) (St.mk
  [AV.und, AV.und, AV.r (RV.c (CV.f (FV.i IntKind.u64 d.fst))), AV.und, AV.und, AV.und, AV.und, AV.und, AV.r (RV.c (CV.f (FV.i IntKind.u64 d.snd.fst))),
    AV.r (RV.c (CV.f (FV.i IntKind.u64 d.snd.snd.fst))), AV.r (RV.c (CV.f (FV.i IntKind.u64 d.snd.snd.snd.fst))), AV.und, AV.und, AV.und, AV.r (RV.c (CV.f (FV.i IntKind.u64 d.snd.snd.snd.snd.fst))),
    AV.r (RV.c (CV.f (FV.i IntKind.u64 d.snd.snd.snd.snd.snd.fst))), AV.r (RV.c (CV.f (FV.i IntKind.u64 d.snd.snd.snd.snd.snd.snd.fst))),
    AV.r (RV.c (CV.f (FV.i IntKind.u64 d.snd.snd.snd.snd.snd.snd.snd.fst))), AV.r (RV.c (CV.f (FV.i IntKind.u64 d.snd.snd.snd.snd.snd.snd.snd.snd.fst))), AV.und, AV.und, AV.und, AV.und, AV.und,
    AV.und, AV.und, AV.und, AV.und, AV.und, AV.und, AV.und, AV.und, AV.und, AV.und, AV.und, AV.und, AV.und, AV.und, AV.und, AV.und, AV.und, AV.und, AV.und, AV.und, AV.und, AV.und, AV.und, AV.und,
    AV.und, AV.und, AV.und, AV.und, AV.und, AV.und, AV.und, AV.und, AV.und, AV.und, AV.und, AV.und, AV.und, AV.und, AV.und, AV.und, AV.und, AV.und, AV.und, AV.und, AV.und, AV.und, AV.und, AV.und,
    AV.und, AV.und, AV.und, AV.und, AV.und, AV.und, AV.und, AV.und, AV.und, AV.und, AV.und, AV.und, AV.und, AV.und, AV.und, AV.und, AV.und, AV.und, AV.und, AV.und, AV.und, AV.und, AV.und, AV.und,
    AV.und, AV.und, AV.und, AV.und, AV.und, AV.und, AV.r (RV.c (CV.f (FV.i IntKind.u64 d.snd.snd.snd.snd.snd.snd.snd.snd.snd.fst))),
    AV.r (RV.c (CV.f (FV.b d.snd.snd.snd.snd.snd.snd.snd.snd.snd.snd.fst))), AV.r (RV.c (CV.f (FV.b false))), AV.r (RV.c (CV.f (FV.i IntKind.u64 d.snd.snd.snd.snd.snd.snd.snd.snd.snd.fst))),
    AV.r (RV.c (CV.f (FV.i IntKind.u64 d.snd.snd.snd.fst))), AV.r (RV.c (CV.f (FV.i IntKind.u64 d.snd.snd.snd.snd.snd.snd.snd.snd.snd.snd.snd.fst))),
    AV.r (RV.c (CV.f (FV.i IntKind.u64 d.snd.snd.snd.snd.snd.snd.snd.snd.snd.snd.snd.snd.fst))), AV.r (RV.c (CV.f (FV.i IntKind.u64 d.snd.snd.snd.snd.snd.snd.snd.snd.snd.snd.snd.snd.snd.fst))),
    AV.r (RV.c (CV.f (FV.i IntKind.u64 d.snd.snd.snd.snd.fst))), AV.r (RV.c (CV.f (FV.i IntKind.u64 d.snd.snd.snd.snd.snd.snd.snd.snd.snd.snd.snd.snd.snd.snd.fst))),
    AV.r (RV.c (CV.f (FV.b d.snd.snd.snd.snd.snd.snd.snd.snd.snd.snd.snd.snd.snd.snd.snd.fst))), AV.r (RV.c (CV.f (FV.b d.snd.snd.snd.snd.snd.snd.snd.snd.snd.snd.snd.snd.snd.snd.snd.fst))),
    AV.r (RV.c (CV.f (FV.i IntKind.u64 d.snd.snd.snd.snd.snd.snd.snd.snd.snd.fst))), AV.r (RV.c (CV.f (FV.i IntKind.u64 d.snd.snd.snd.snd.snd.snd.snd.snd.fst))),
    AV.r (RV.c (CV.f (FV.i IntKind.u64 d.snd.snd.snd.snd.snd.snd.snd.snd.snd.snd.snd.snd.fst))), AV.r (RV.c (CV.f (FV.i IntKind.u64 d.snd.snd.fst))),
    AV.r (RV.c (CV.f (FV.i IntKind.u64 d.snd.snd.snd.snd.snd.snd.fst))), AV.r (RV.c (CV.f (FV.i IntKind.u64 d.snd.snd.snd.snd.snd.snd.fst))),
    AV.r (RV.c (CV.f (FV.b d.snd.snd.snd.snd.snd.snd.snd.snd.snd.snd.snd.snd.snd.snd.snd.snd))), AV.und, AV.und, AV.und, AV.und, AV.und, AV.und, AV.und, AV.und, AV.und, AV.und, AV.und, AV.und, AV.und,
    AV.und]
  [] [])) (fun d => K (AX.ex 2) (St.mk
  [AV.und, AV.und, AV.r (RV.c (CV.f (FV.i IntKind.u64 d.fst))), AV.und, AV.und, AV.und, AV.und, AV.und, AV.r (RV.c (CV.f (FV.i IntKind.u64 d.snd.fst))),
    AV.r (RV.c (CV.f (FV.i IntKind.u64 d.snd.snd.fst))), AV.r (RV.c (CV.f (FV.i IntKind.u64 d.snd.snd.snd.fst))), AV.und, AV.und, AV.und, AV.r (RV.c (CV.f (FV.i IntKind.u64 d.snd.snd.snd.snd.fst))),
    AV.r (RV.c (CV.f (FV.i IntKind.u64 d.snd.snd.snd.snd.snd.fst))), AV.r (RV.c (CV.f (FV.i IntKind.u64 d.snd.snd.snd.snd.snd.snd.fst))),
    AV.r (RV.c (CV.f (FV.i IntKind.u64 d.snd.snd.snd.snd.snd.snd.snd.fst))), AV.r (RV.c (CV.f (FV.i IntKind.u64 d.snd.snd.snd.snd.snd.snd.snd.snd.fst))), AV.und, AV.und, AV.und, AV.und, AV.und,
    AV.und, AV.und, AV.und, AV.und, AV.und, AV.und, AV.und, AV.und, AV.und, AV.und, AV.und, AV.und, AV.und, AV.und, AV.und, AV.und, AV.und, AV.und, AV.und, AV.und, AV.und, AV.und, AV.und, AV.und,
    AV.und, AV.und, AV.und, AV.und, AV.und, AV.und, AV.und, AV.und, AV.und, AV.und, AV.und, AV.und, AV.und, AV.und, AV.und, AV.und, AV.und, AV.und, AV.und, AV.und, AV.und, AV.und, AV.und, AV.und,
    AV.und, AV.und, AV.und, AV.und, AV.und, AV.und, AV.und, AV.und, AV.und, AV.und, AV.und, AV.und, AV.und, AV.und, AV.und, AV.und, AV.und, AV.und, AV.und, AV.und, AV.und, AV.und, AV.und, AV.und,
    AV.und, AV.und, AV.und, AV.und, AV.und, AV.und, AV.r (RV.c (CV.f (FV.i IntKind.u64 d.snd.snd.snd.snd.snd.snd.snd.snd.fst))), AV.r (RV.c (CV.f (FV.b d.snd.snd.snd.snd.snd.snd.snd.snd.snd.fst))),
    AV.r (RV.c (CV.f (FV.b false))), AV.r (RV.c (CV.f (FV.i IntKind.u64 d.snd.snd.snd.snd.snd.snd.snd.snd.fst))), AV.r (RV.c (CV.f (FV.i IntKind.u64 d.snd.snd.snd.fst))),
    AV.r (RV.c (CV.f (FV.i IntKind.u64 d.snd.snd.snd.snd.snd.snd.snd.snd.snd.snd.fst))), AV.r (RV.c (CV.f (FV.i IntKind.u64 d.snd.snd.snd.snd.snd.snd.fst))),
    AV.r (RV.c (CV.f (FV.i IntKind.u64 d.snd.snd.snd.snd.snd.snd.snd.snd.snd.snd.snd.fst))), AV.r (RV.c (CV.f (FV.i IntKind.u64 d.snd.snd.snd.snd.fst))),
    AV.r (RV.c (CV.f (FV.i IntKind.u64 d.snd.snd.snd.snd.snd.snd.snd.snd.snd.snd.snd.snd.fst))), AV.r (RV.c (CV.f (FV.b d.snd.snd.snd.snd.snd.snd.snd.snd.snd.snd.snd.snd.snd))),
    AV.r (RV.c (CV.f (FV.b d.snd.snd.snd.snd.snd.snd.snd.snd.snd.snd.snd.snd.snd))), AV.und, AV.und, AV.und, AV.und, AV.und, AV.und, AV.und, AV.und, AV.und, AV.und, AV.und, AV.und, AV.und, AV.und,
    AV.und, AV.und, AV.und, AV.und, AV.und, AV.und, AV.und]
  [] [])))) := by kernel_rfl
theorem it_math_bits_Div64_1 {ρ : Type} (x0 : Int) (x1 : Int) (x2 : Int) (x3 : Int) (x4 : Int) (x5 : Int) (x6 : Int) (x7 : Int) (x8 : Int) (K : AX → St → Option ρ) :
    iter (fun t => t.head 0 ⟨[⟨17, [0, 1, 3, 4, 5, 6, 7, 12, 17, 18, 19, 20, 21, 22, 23, 24, 25, 26, 27, 28, 29, 30, 31, 32, 33, 34, 35, 36, 37, 38, 39, 40, 41, 42, 43, 44, 45, 46, 47, 48, 49, 50, 51, 52, 53, 54, 55, 56, 57, 58, 59, 60, 61, 62, 63, 64, 65, 66, 67, 68, 69, 78, 79, 80, 81, 82, 83, 84, 85, 86, 87, 88, 89, 90, 91, 92, 93, 94, 95, 96, 97, 98, 99, 100, 101, 102, 103, 104, 113, 114, 115, 116, 117, 118, 119, 120, 121, 122, 123, 124, 125, 126, 127, 128, 129, 130, 131, 132, 133, 134, 70, 71, 72, 73, 74, 75, 76, 77], []⟩, ⟨24, [0, 1, 3, 4, 5, 6, 7, 11, 12, 13, 19, 20, 21, 22, 23, 24, 25, 26, 27, 28, 29, 30, 31, 32, 33, 34, 35, 36, 37, 38, 39, 40, 41, 42, 43, 44, 45, 46, 47, 48, 49, 50, 51, 52, 53, 54, 55, 56, 57, 58, 59, 60, 61, 62, 63, 64, 65, 66, 67, 68, 69, 70, 71, 72, 73, 74, 75, 76, 77, 78, 79, 80, 81, 82, 83, 84, 85, 86, 87, 88, 89, 90, 91, 92, 93, 94, 95, 96, 97, 98, 99, 100, 101, 102, 103, 104, 113, 114, 115, 116, 117, 118, 119, 120, 121, 122, 123, 124, 125, 126, 127, 128, 129, 130, 131, 132, 133, 134, 105, 106, 107, 108, 109, 110, 111, 112], []⟩], [⟨17, 0, @R_math_bits_Div64_0 (@L_math_bits_Div64_0)⟩, ⟨24, 0, @R_math_bits_Div64_1 (@L_math_bits_Div64_1)⟩], [], [], none⟩ (loopIn Try.prog 54 24)) (runC Try.prog (envOf [(89, F_math_bits_LeadingZeros64 f_math_bits_LeadingZeros64)]) ⟨[⟨17, [0, 1, 3, 4, 5, 6, 7, 12, 17, 18, 19, 20, 21, 22, 23, 24, 25, 26, 27, 28, 29, 30, 31, 32, 33, 34, 35, 36, 37, 38, 39, 40, 41, 42, 43, 44, 45, 46, 47, 48, 49, 50, 51, 52, 53, 54, 55, 56, 57, 58, 59, 60, 61, 62, 63, 64, 65, 66, 67, 68, 69, 78, 79, 80, 81, 82, 83, 84, 85, 86, 87, 88, 89, 90, 91, 92, 93, 94, 95, 96, 97, 98, 99, 100, 101, 102, 103, 104, 113, 114, 115, 116, 117, 118, 119, 120, 121, 122, 123, 124, 125, 126, 127, 128, 129, 130, 131, 132, 133, 134, 70, 71, 72, 73, 74, 75, 76, 77], []⟩, ⟨24, [0, 1, 3, 4, 5, 6, 7, 11, 12, 13, 19, 20, 21, 22, 23, 24, 25, 26, 27, 28, 29, 30, 31, 32, 33, 34, 35, 36, 37, 38, 39, 40, 41, 42, 43, 44, 45, 46, 47, 48, 49, 50, 51, 52, 53, 54, 55, 56, 57, 58, 59, 60, 61, 62, 63, 64, 65, 66, 67, 68, 69, 70, 71, 72, 73, 74, 75, 76, 77, 78, 79, 80, 81, 82, 83, 84, 85, 86, 87, 88, 89, 90, 91, 92, 93, 94, 95, 96, 97, 98, 99, 100, 101, 102, 103, 104, 113, 114, 115, 116, 117, 118, 119, 120, 121, 122, 123, 124, 125, 126, 127, 128, 129, 130, 131, 132, 133, 134, 105, 106, 107, 108, 109, 110, 111, 112], []⟩], [⟨17, 0, @R_math_bits_Div64_0 (@L_math_bits_Div64_0)⟩, ⟨24, 0, @R_math_bits_Div64_1 (@L_math_bits_Div64_1)⟩], [], [], none⟩ (tmpsOf Try.prog 54) 0 200 (loopIn Try.prog 54 24)) K 200
      (St.mk
    [AV.und, AV.und, AV.r (RV.c (CV.f (FV.i IntKind.u64 x0))), AV.und, AV.und, AV.und, AV.und, AV.und, AV.r (RV.c (CV.f (FV.i IntKind.u64 x1))), AV.r (RV.c (CV.f (FV.i IntKind.u64 x2))),
      AV.r (RV.c (CV.f (FV.i IntKind.u64 x3))), AV.und, AV.und, AV.und, AV.r (RV.c (CV.f (FV.i IntKind.u64 x4))), AV.r (RV.c (CV.f (FV.i IntKind.u64 x5))), AV.r (RV.c (CV.f (FV.i IntKind.u64 x6))),
      AV.r (RV.c (CV.f (FV.i IntKind.u64 x7))), AV.r (RV.c (CV.f (FV.i IntKind.u64 x8))), AV.und, AV.und, AV.und, AV.und, AV.und, AV.und, AV.und, AV.und, AV.und, AV.und, AV.und, AV.und, AV.und, AV.und,
      AV.und, AV.und, AV.und, AV.und, AV.und, AV.und, AV.und, AV.und, AV.und, AV.und, AV.und, AV.und, AV.und, AV.und, AV.und, AV.und, AV.und, AV.und, AV.und, AV.und, AV.und, AV.und, AV.und, AV.und,
      AV.und, AV.und, AV.und, AV.und, AV.und, AV.und, AV.und, AV.und, AV.und, AV.und, AV.und, AV.und, AV.und, AV.und, AV.und, AV.und, AV.und, AV.und, AV.und, AV.und, AV.und, AV.und, AV.und, AV.und,
      AV.und, AV.und, AV.und, AV.und, AV.und, AV.und, AV.und, AV.und, AV.und, AV.und, AV.und, AV.und, AV.und, AV.und, AV.und, AV.und, AV.und, AV.und, AV.und, AV.und, AV.und, AV.und, AV.und, AV.und,
      AV.und, AV.und, AV.und, AV.und, AV.und, AV.und, AV.und, AV.und, AV.und, AV.und, AV.und, AV.und, AV.und, AV.und, AV.und, AV.und, AV.und, AV.und, AV.und, AV.und, AV.und, AV.und, AV.und, AV.und,
      AV.und, AV.und, AV.und, AV.und, AV.und, AV.und]
    [] []) = L_math_bits_Div64_1 (x0, x1, x2, x3, x4, x5, x6, x7, x8) (Sum.elim (fun d => K (AX.ex 2) (St.mk
  [AV.und, AV.und, AV.r (RV.c (CV.f (FV.i IntKind.u64 d.fst))), AV.und, AV.und, AV.und, AV.und, AV.und, AV.r (RV.c (CV.f (FV.i IntKind.u64 d.snd.fst))),
    AV.r (RV.c (CV.f (FV.i IntKind.u64 d.snd.snd.fst))), AV.r (RV.c (CV.f (FV.i IntKind.u64 d.snd.snd.snd.fst))), AV.und, AV.und, AV.und, AV.r (RV.c (CV.f (FV.i IntKind.u64 d.snd.snd.snd.snd.fst))),
    AV.r (RV.c (CV.f (FV.i IntKind.u64 d.snd.snd.snd.snd.snd.fst))), AV.r (RV.c (CV.f (FV.i IntKind.u64 d.snd.snd.snd.snd.snd.snd.fst))),
    AV.r (RV.c (CV.f (FV.i IntKind.u64 d.snd.snd.snd.snd.snd.snd.snd.fst))), AV.r (RV.c (CV.f (FV.i IntKind.u64 d.snd.snd.snd.snd.snd.snd.snd.snd.fst))), AV.und, AV.und, AV.und, AV.und, AV.und,
    AV.und, AV.und, AV.und, AV.und, AV.und, AV.und, AV.und, AV.und, AV.und, AV.und, AV.und, AV.und, AV.und, AV.und, AV.und, AV.und, AV.und, AV.und, AV.und, AV.und, AV.und, AV.und, AV.und, AV.und,
    AV.und, AV.und, AV.und, AV.und, AV.und, AV.und, AV.und, AV.und, AV.und, AV.und, AV.und, AV.und, AV.und, AV.und, AV.und, AV.und, AV.und, AV.und, AV.und, AV.und, AV.und, AV.und, AV.und, AV.und,
    AV.und, AV.und, AV.und, AV.und, AV.und, AV.und, AV.und, AV.und, AV.und, AV.und, AV.und, AV.und, AV.und, AV.und, AV.und, AV.und, AV.und, AV.und, AV.und, AV.und, AV.und, AV.und, AV.und, AV.und,
    AV.und, AV.und, AV.und, AV.und, AV.und, AV.und, AV.r (RV.c (CV.f (FV.i IntKind.u64 d.snd.snd.snd.snd.snd.snd.snd.snd.snd.fst))),
    AV.r (RV.c (CV.f (FV.b d.snd.snd.snd.snd.snd.snd.snd.snd.snd.snd.fst))), AV.r (RV.c (CV.f (FV.b true))), AV.tup [], AV.tup [], AV.tup [], AV.tup [], AV.tup [], AV.tup [], AV.tup [], AV.tup [],
    AV.r (RV.c (CV.f (FV.b true))), AV.r (RV.c (CV.f (FV.i IntKind.u64 d.snd.snd.snd.snd.snd.snd.snd.snd.snd.fst))), AV.r (RV.c (CV.f (FV.i IntKind.u64 d.snd.snd.snd.snd.snd.snd.snd.snd.fst))),
    AV.r (RV.c (CV.f (FV.i IntKind.u64 d.snd.snd.snd.snd.snd.snd.snd.snd.snd.snd.snd.fst))), AV.r (RV.c (CV.f (FV.i IntKind.u64 d.snd.snd.fst))),
    AV.r (RV.c (CV.f (FV.i IntKind.u64 d.snd.snd.snd.snd.snd.snd.fst))), AV.r (RV.c (CV.f (FV.i IntKind.u64 d.snd.snd.snd.snd.snd.snd.fst))),
    AV.r (RV.c (CV.f (FV.b d.snd.snd.snd.snd.snd.snd.snd.snd.snd.snd.snd.snd))), AV.und, AV.und, AV.und, AV.und, AV.und, AV.und, AV.und, AV.und, AV.und, AV.und, AV.und, AV.und, AV.und, AV.und]
  [] [])) (Sum.elim (fun d => K (AX.ex 2) (St.mk
  [AV.und, AV.und, AV.r (RV.c (CV.f (FV.i IntKind.u64 d.fst))), AV.und, AV.und, AV.und, AV.und, AV.und, AV.r (RV.c (CV.f (FV.i IntKind.u64 d.snd.fst))),
    AV.r (RV.c (CV.f (FV.i IntKind.u64 d.snd.snd.fst))), AV.r (RV.c (CV.f (FV.i IntKind.u64 d.snd.snd.snd.fst))), AV.und, AV.und, AV.und, AV.r (RV.c (CV.f (FV.i IntKind.u64 d.snd.snd.snd.snd.fst))),
    AV.r (RV.c (CV.f (FV.i IntKind.u64 d.snd.snd.snd.snd.snd.fst))), AV.r (RV.c (CV.f (FV.i IntKind.u64 d.snd.snd.snd.snd.snd.snd.fst))),
    AV.r (RV.c (CV.f (FV.i IntKind.u64 d.snd.snd.snd.snd.snd.snd.snd.fst))), AV.r (RV.c (CV.f (FV.i IntKind.u64 d.snd.snd.snd.snd.snd.snd.snd.snd.fst))), AV.und, AV.und, AV.und, AV.und, AV.und,
    AV.und, AV.und, AV.und, AV.und, AV.und, AV.und, AV.und, AV.und, AV.und, AV.und, AV.und, AV.und, AV.und, AV.und, AV.und, AV.und, AV.und, AV.und, AV.und, AV.und, AV.und, AV.und, AV.und, AV.und,
    AV.und, AV.und, AV.und, AV.und, AV.und, AV.und, AV.und, AV.und, AV.und, AV.und, AV.und, AV.und, AV.und, AV.und, AV.und, AV.und, AV.und, AV.und, AV.und, AV.und, AV.und, AV.und, AV.und, AV.und,
    AV.und, AV.und, AV.und, AV.und, AV.und, AV.und, AV.und, AV.und, AV.und, AV.und, AV.und, AV.und, AV.und, AV.und, AV.und, AV.und, AV.und, AV.und, AV.und, AV.und, AV.und, AV.und, AV.und, AV.und,
    AV.und, AV.und, AV.und, AV.und, AV.und, AV.und, AV.r (RV.c (CV.f (FV.i IntKind.u64 d.snd.snd.snd.snd.snd.snd.snd.snd.snd.fst))),
    AV.r (RV.c (CV.f (FV.b d.snd.snd.snd.snd.snd.snd.snd.snd.snd.snd.fst))), AV.r (RV.c (CV.f (FV.b false))), AV.r (RV.c (CV.f (FV.i IntKind.u64 d.snd.snd.snd.snd.snd.snd.snd.snd.snd.fst))),
    AV.r (RV.c (CV.f (FV.i IntKind.u64 d.snd.snd.snd.fst))), AV.r (RV.c (CV.f (FV.i IntKind.u64 d.snd.snd.snd.snd.snd.snd.snd.snd.snd.snd.snd.fst))),
    AV.r (RV.c (CV.f (FV.i IntKind.u64 d.snd.snd.snd.snd.snd.snd.snd.snd.snd.snd.snd.snd.fst))), AV.r (RV.c (CV.f (FV.i IntKind.u64 d.snd.snd.snd.snd.snd.snd.snd.snd.snd.snd.snd.snd.snd.fst))),
    AV.r (RV.c (CV.f (FV.i IntKind.u64 d.snd.snd.snd.snd.fst))), AV.r (RV.c (CV.f (FV.i IntKind.u64 d.snd.snd.snd.snd.snd.snd.snd.snd.snd.snd.snd.snd.snd.snd.fst))),
    AV.r (RV.c (CV.f (FV.b d.snd.snd.snd.snd.snd.snd.snd.snd.snd.snd.snd.snd.snd.snd.snd.fst))), AV.r (RV.c (CV.f (FV.b d.snd.snd.snd.snd.snd.snd.snd.snd.snd.snd.snd.snd.snd.snd.snd.fst))),
    AV.r (RV.c (CV.f (FV.i IntKind.u64 d.snd.snd.snd.snd.snd.snd.snd.snd.snd.fst))), AV.r (RV.c (CV.f (FV.i IntKind.u64 d.snd.snd.snd.snd.snd.snd.snd.snd.fst))),
    AV.r (RV.c (CV.f (FV.i IntKind.u64 d.snd.snd.snd.snd.snd.snd.snd.snd.snd.snd.snd.snd.fst))), AV.r (RV.c (CV.f (FV.i IntKind.u64 d.snd.snd.fst))),
    AV.r (RV.c (CV.f (FV.i IntKind.u64 d.snd.snd.snd.snd.snd.snd.fst))), AV.r (RV.c (CV.f (FV.i IntKind.u64 d.snd.snd.snd.snd.snd.snd.fst))),
    AV.r (RV.c (CV.f (FV.b d.snd.snd.snd.snd.snd.snd.snd.snd.snd.snd.snd.snd.snd.snd.snd.snd))), AV.und, AV.und, AV.und, AV.und, AV.und, AV.und, AV.und, AV.und, AV.und, AV.und, AV.und, AV.und, AV.und,
    AV.und]
  [] [])) (fun d => K (AX.ex 2) (St.mk
  [AV.und, AV.und, AV.r (RV.c (CV.f (FV.i IntKind.u64 d.fst))), AV.und, AV.und, AV.und, AV.und, AV.und, AV.r (RV.c (CV.f (FV.i IntKind.u64 d.snd.fst))),
    AV.r (RV.c (CV.f (FV.i IntKind.u64 d.snd.snd.fst))), AV.r (RV.c (CV.f (FV.i IntKind.u64 d.snd.snd.snd.fst))), AV.und, AV.und, AV.und, AV.r (RV.c (CV.f (FV.i IntKind.u64 d.snd.snd.snd.snd.fst))),
    AV.r (RV.c (CV.f (FV.i IntKind.u64 d.snd.snd.snd.snd.snd.fst))), AV.r (RV.c (CV.f (FV.i IntKind.u64 d.snd.snd.snd.snd.snd.snd.fst))),
    AV.r (RV.c (CV.f (FV.i IntKind.u64 d.snd.snd.snd.snd.snd.snd.snd.fst))), AV.r (RV.c (CV.f (FV.i IntKind.u64 d.snd.snd.snd.snd.snd.snd.snd.snd.fst))), AV.und, AV.und, AV.und, AV.und, AV.und,
    AV.und, AV.und, AV.und, AV.und, AV.und, AV.und, AV.und, AV.und, AV.und, AV.und, AV.und, AV.und, AV.und, AV.und, AV.und, AV.und, AV.und, AV.und, AV.und, AV.und, AV.und, AV.und, AV.und, AV.und,
    AV.und, AV.und, AV.und, AV.und, AV.und, AV.und, AV.und, AV.und, AV.und, AV.und, AV.und, AV.und, AV.und, AV.und, AV.und, AV.und, AV.und, AV.und, AV.und, AV.und, AV.und, AV.und, AV.und, AV.und,
    AV.und, AV.und, AV.und, AV.und, AV.und, AV.und, AV.und, AV.und, AV.und, AV.und, AV.und, AV.und, AV.und, AV.und, AV.und, AV.und, AV.und, AV.und, AV.und, AV.und, AV.und, AV.und, AV.und, AV.und,
    AV.und, AV.und, AV.und, AV.und, AV.und, AV.und, AV.r (RV.c (CV.f (FV.i IntKind.u64 d.snd.snd.snd.snd.snd.snd.snd.snd.fst))), AV.r (RV.c (CV.f (FV.b d.snd.snd.snd.snd.snd.snd.snd.snd.snd.fst))),
    AV.r (RV.c (CV.f (FV.b false))), AV.r (RV.c (CV.f (FV.i IntKind.u64 d.snd.snd.snd.snd.snd.snd.snd.snd.fst))), AV.r (RV.c (CV.f (FV.i IntKind.u64 d.snd.snd.snd.fst))),
    AV.r (RV.c (CV.f (FV.i IntKind.u64 d.snd.snd.snd.snd.snd.snd.snd.snd.snd.snd.fst))), AV.r (RV.c (CV.f (FV.i IntKind.u64 d.snd.snd.snd.snd.snd.snd.fst))),
    AV.r (RV.c (CV.f (FV.i IntKind.u64 d.snd.snd.snd.snd.snd.snd.snd.snd.snd.snd.snd.fst))), AV.r (RV.c (CV.f (FV.i IntKind.u64 d.snd.snd.snd.snd.fst))),
    AV.r (RV.c (CV.f (FV.i IntKind.u64 d.snd.snd.snd.snd.snd.snd.snd.snd.snd.snd.snd.snd.fst))), AV.r (RV.c (CV.f (FV.b d.snd.snd.snd.snd.snd.snd.snd.snd.snd.snd.snd.snd.snd))),
    AV.r (RV.c (CV.f (FV.b d.snd.snd.snd.snd.snd.snd.snd.snd.snd.snd.snd.snd.snd))), AV.und, AV.und, AV.und, AV.und, AV.und, AV.und, AV.und, AV.und, AV.und, AV.und, AV.und, AV.und, AV.und, AV.und,
    AV.und, AV.und, AV.und, AV.und, AV.und, AV.und, AV.und]
  [] [])))) :=
  iter_loopX (emb := fun (d : Int × Int × Int × Int × Int × Int × Int × Int × Int) => St.mk
  [AV.und, AV.und, AV.r (RV.c (CV.f (FV.i IntKind.u64 d.fst))), AV.und, AV.und, AV.und, AV.und, AV.und, AV.r (RV.c (CV.f (FV.i IntKind.u64 d.snd.fst))),
    AV.r (RV.c (CV.f (FV.i IntKind.u64 d.snd.snd.fst))), AV.r (RV.c (CV.f (FV.i IntKind.u64 d.snd.snd.snd.fst))), AV.und, AV.und, AV.und, AV.r (RV.c (CV.f (FV.i IntKind.u64 d.snd.snd.snd.snd.fst))),
    AV.r (RV.c (CV.f (FV.i IntKind.u64 d.snd.snd.snd.snd.snd.fst))), AV.r (RV.c (CV.f (FV.i IntKind.u64 d.snd.snd.snd.snd.snd.snd.fst))),
    AV.r (RV.c (CV.f (FV.i IntKind.u64 d.snd.snd.snd.snd.snd.snd.snd.fst))), AV.r (RV.c (CV.f (FV.i IntKind.u64 d.snd.snd.snd.snd.snd.snd.snd.snd))), AV.und, AV.und, AV.und, AV.und, AV.und, AV.und,
    AV.und, AV.und, AV.und, AV.und, AV.und, AV.und, AV.und, AV.und, AV.und, AV.und, AV.und, AV.und, AV.und, AV.und, AV.und, AV.und, AV.und, AV.und, AV.und, AV.und, AV.und, AV.und, AV.und, AV.und,
    AV.und, AV.und, AV.und, AV.und, AV.und, AV.und, AV.und, AV.und, AV.und, AV.und, AV.und, AV.und, AV.und, AV.und, AV.und, AV.und, AV.und, AV.und, AV.und, AV.und, AV.und, AV.und, AV.und, AV.und,
    AV.und, AV.und, AV.und, AV.und, AV.und, AV.und, AV.und, AV.und, AV.und, AV.und, AV.und, AV.und, AV.und, AV.und, AV.und, AV.und, AV.und, AV.und, AV.und, AV.und, AV.und, AV.und, AV.und, AV.und,
    AV.und, AV.und, AV.und, AV.und, AV.und, AV.und, AV.und, AV.und, AV.und, AV.und, AV.und, AV.und, AV.und, AV.und, AV.und, AV.und, AV.und, AV.und, AV.und, AV.und, AV.und, AV.und, AV.und, AV.und,
    AV.und, AV.und, AV.und, AV.und, AV.und, AV.und, AV.und, AV.und, AV.und, AV.und, AV.und, AV.und, AV.und, AV.und]
  [] []) (step := fun d c x => S_math_bits_Div64_1 f_math_bits_LeadingZeros64  d.1 d.2.1 d.2.2.1 d.2.2.2.1 d.2.2.2.2.1 d.2.2.2.2.2.1 d.2.2.2.2.2.2.1 d.2.2.2.2.2.2.2.1 d.2.2.2.2.2.2.2.2 c x) (kx := (Sum.elim (fun d => K (AX.ex 2) (St.mk
  [AV.und, AV.und, AV.r (RV.c (CV.f (FV.i IntKind.u64 d.fst))), AV.und, AV.und, AV.und, AV.und, AV.und, AV.r (RV.c (CV.f (FV.i IntKind.u64 d.snd.fst))),
    AV.r (RV.c (CV.f (FV.i IntKind.u64 d.snd.snd.fst))), AV.r (RV.c (CV.f (FV.i IntKind.u64 d.snd.snd.snd.fst))), AV.und, AV.und, AV.und, AV.r (RV.c (CV.f (FV.i IntKind.u64 d.snd.snd.snd.snd.fst))),
    AV.r (RV.c (CV.f (FV.i IntKind.u64 d.snd.snd.snd.snd.snd.fst))), AV.r (RV.c (CV.f (FV.i IntKind.u64 d.snd.snd.snd.snd.snd.snd.fst))),
    AV.r (RV.c (CV.f (FV.i IntKind.u64 d.snd.snd.snd.snd.snd.snd.snd.fst))), AV.r (RV.c (CV.f (FV.i IntKind.u64 d.snd.snd.snd.snd.snd.snd.snd.snd.fst))), AV.und, AV.und, AV.und, AV.und, AV.und,
    AV.und, AV.und, AV.und, AV.und, AV.und, AV.und, AV.und, AV.und, AV.und, AV.und, AV.und, AV.und, AV.und, AV.und, AV.und, AV.und, AV.und, AV.und, AV.und, AV.und, AV.und, AV.und, AV.und, AV.und,
    AV.und, AV.und, AV.und, AV.und, AV.und, AV.und, AV.und, AV.und, AV.und, AV.und, AV.und, AV.und, AV.und, AV.und, AV.und, AV.und, AV.und, AV.und, AV.und, AV.und, AV.und, AV.und, AV.und, AV.und,
    AV.und, AV.und, AV.und, AV.und, AV.und, AV.und, AV.und, AV.und, AV.und, AV.und, AV.und, AV.und, AV.und, AV.und, AV.und, AV.und, AV.und, AV.und, AV.und, AV.und, AV.und, AV.und, AV.und, AV.und,
    AV.und, AV.und, AV.und, AV.und, AV.und, AV.und, AV.r (RV.c (CV.f (FV.i IntKind.u64 d.snd.snd.snd.snd.snd.snd.snd.snd.snd.fst))),
    AV.r (RV.c (CV.f (FV.b d.snd.snd.snd.snd.snd.snd.snd.snd.snd.snd.fst))), AV.r (RV.c (CV.f (FV.b true))), AV.tup [], AV.tup [], AV.tup [], AV.tup [], AV.tup [], AV.tup [], AV.tup [], AV.tup [],
    AV.r (RV.c (CV.f (FV.b true))), AV.r (RV.c (CV.f (FV.i IntKind.u64 d.snd.snd.snd.snd.snd.snd.snd.snd.snd.fst))), AV.r (RV.c (CV.f (FV.i IntKind.u64 d.snd.snd.snd.snd.snd.snd.snd.snd.fst))),
    AV.r (RV.c (CV.f (FV.i IntKind.u64 d.snd.snd.snd.snd.snd.snd.snd.snd.snd.snd.snd.fst))), AV.r (RV.c (CV.f (FV.i IntKind.u64 d.snd.snd.fst))),
    AV.r (RV.c (CV.f (FV.i IntKind.u64 d.snd.snd.snd.snd.snd.snd.fst))), AV.r (RV.c (CV.f (FV.i IntKind.u64 d.snd.snd.snd.snd.snd.snd.fst))),
    AV.r (RV.c (CV.f (FV.b d.snd.snd.snd.snd.snd.snd.snd.snd.snd.snd.snd.snd))), AV.und, AV.und, AV.und, AV.und, AV.und, AV.und, AV.und, AV.und, AV.und, AV.und, AV.und, AV.und, AV.und, AV.und]
  [] [])) (Sum.elim (fun d => K (AX.ex 2) (St.mk
  [AV.und, AV.und, AV.r (RV.c (CV.f (FV.i IntKind.u64 d.fst))), AV.und, AV.und, AV.und, AV.und, AV.und, AV.r (RV.c (CV.f (FV.i IntKind.u64 d.snd.fst))),
    AV.r (RV.c (CV.f (FV.i IntKind.u64 d.snd.snd.fst))), AV.r (RV.c (CV.f (FV.i IntKind.u64 d.snd.snd.snd.fst))), AV.und, AV.und, AV.und, AV.r (RV.c (CV.f (FV.i IntKind.u64 d.snd.snd.snd.snd.fst))),
    AV.r (RV.c (CV.f (FV.i IntKind.u64 d.snd.snd.snd.snd.snd.fst))), AV.r (RV.c (CV.f (FV.i IntKind.u64 d.snd.snd.snd.snd.snd.snd.fst))),
    AV.r (RV.c (CV.f (FV.i IntKind.u64 d.snd.snd.snd.snd.snd.snd.snd.fst))), AV.r (RV.c (CV.f (FV.i IntKind.u64 d.snd.snd.snd.snd.snd.snd.snd.snd.fst))), AV.und, AV.und, AV.und, AV.und, AV.und,
    AV.und, AV.und, AV.und, AV.und, AV.und, AV.und, AV.und, AV.und, AV.und, AV.und, AV.und, AV.und, AV.und, AV.und, AV.und, AV.und, AV.und, AV.und, AV.und, AV.und, AV.und, AV.und, AV.und, AV.und,
    AV.und, AV.und, AV.und, AV.und, AV.und, AV.und, AV.und, AV.und, AV.und, AV.und, AV.und, AV.und, AV.und, AV.und, AV.und, AV.und, AV.und, AV.und, AV.und, AV.und, AV.und, AV.und, AV.und, AV.und,
    AV.und, AV.und, AV.und, AV.und, AV.und, AV.und, AV.und, AV.und, AV.und, AV.und, AV.und, AV.und, AV.und, AV.und, AV.und, AV.und, AV.und, AV.und, AV.und, AV.und, AV.und, AV.und, AV.und, AV.und,
    AV.und, AV.und, AV.und, AV.und, AV.und, AV.und, AV.r (RV.c (CV.f (FV.i IntKind.u64 d.snd.snd.snd.snd.snd.snd.snd.snd.snd.fst))),
    AV.r (RV.c (CV.f (FV.b d.snd.snd.snd.snd.snd.snd.snd.snd.snd.snd.fst))), AV.r (RV.c (CV.f (FV.b false))), AV.r (RV.c (CV.f (FV.i IntKind.u64 d.snd.snd.snd.snd.snd.snd.snd.snd.snd.fst))),
    AV.r (RV.c (CV.f (FV.i IntKind.u64 d.snd.snd.snd.fst))), AV.r (RV.c (CV.f (FV.i IntKind.u64 d.snd.snd.snd.snd.snd.snd.snd.snd.snd.snd.snd.fst))),
    AV.r (RV.c (CV.f (FV.i IntKind.u64 d.snd.snd.snd.snd.snd.snd.snd.snd.snd.snd.snd.snd.fst))), AV.r (RV.c (CV.f (FV.i IntKind.u64 d.snd.snd.snd.snd.snd.snd.snd.snd.snd.snd.snd.snd.snd.fst))),
    AV.r (RV.c (CV.f (FV.i IntKind.u64 d.snd.snd.snd.snd.fst))), AV.r (RV.c (CV.f (FV.i IntKind.u64 d.snd.snd.snd.snd.snd.snd.snd.snd.snd.snd.snd.snd.snd.snd.fst))),
    AV.r (RV.c (CV.f (FV.b d.snd.snd.snd.snd.snd.snd.snd.snd.snd.snd.snd.snd.snd.snd.snd.fst))), AV.r (RV.c (CV.f (FV.b d.snd.snd.snd.snd.snd.snd.snd.snd.snd.snd.snd.snd.snd.snd.snd.fst))),
    AV.r (RV.c (CV.f (FV.i IntKind.u64 d.snd.snd.snd.snd.snd.snd.snd.snd.snd.fst))), AV.r (RV.c (CV.f (FV.i IntKind.u64 d.snd.snd.snd.snd.snd.snd.snd.snd.fst))),
    AV.r (RV.c (CV.f (FV.i IntKind.u64 d.snd.snd.snd.snd.snd.snd.snd.snd.snd.snd.snd.snd.fst))), AV.r (RV.c (CV.f (FV.i IntKind.u64 d.snd.snd.fst))),
    AV.r (RV.c (CV.f (FV.i IntKind.u64 d.snd.snd.snd.snd.snd.snd.fst))), AV.r (RV.c (CV.f (FV.i IntKind.u64 d.snd.snd.snd.snd.snd.snd.fst))),
    AV.r (RV.c (CV.f (FV.b d.snd.snd.snd.snd.snd.snd.snd.snd.snd.snd.snd.snd.snd.snd.snd.snd))), AV.und, AV.und, AV.und, AV.und, AV.und, AV.und, AV.und, AV.und, AV.und, AV.und, AV.und, AV.und, AV.und,
    AV.und]
  [] [])) (fun d => K (AX.ex 2) (St.mk
  [AV.und, AV.und, AV.r (RV.c (CV.f (FV.i IntKind.u64 d.fst))), AV.und, AV.und, AV.und, AV.und, AV.und, AV.r (RV.c (CV.f (FV.i IntKind.u64 d.snd.fst))),
    AV.r (RV.c (CV.f (FV.i IntKind.u64 d.snd.snd.fst))), AV.r (RV.c (CV.f (FV.i IntKind.u64 d.snd.snd.snd.fst))), AV.und, AV.und, AV.und, AV.r (RV.c (CV.f (FV.i IntKind.u64 d.snd.snd.snd.snd.fst))),
    AV.r (RV.c (CV.f (FV.i IntKind.u64 d.snd.snd.snd.snd.snd.fst))), AV.r (RV.c (CV.f (FV.i IntKind.u64 d.snd.snd.snd.snd.snd.snd.fst))),
    AV.r (RV.c (CV.f (FV.i IntKind.u64 d.snd.snd.snd.snd.snd.snd.snd.fst))), AV.r (RV.c (CV.f (FV.i IntKind.u64 d.snd.snd.snd.snd.snd.snd.snd.snd.fst))), AV.und, AV.und, AV.und, AV.und, AV.und,
    AV.und, AV.und, AV.und, AV.und, AV.und, AV.und, AV.und, AV.und, AV.und, AV.und, AV.und, AV.und, AV.und, AV.und, AV.und, AV.und, AV.und, AV.und, AV.und, AV.und, AV.und, AV.und, AV.und, AV.und,
    AV.und, AV.und, AV.und, AV.und, AV.und, AV.und, AV.und, AV.und, AV.und, AV.und, AV.und, AV.und, AV.und, AV.und, AV.und, AV.und, AV.und, AV.und, AV.und, AV.und, AV.und, AV.und, AV.und, AV.und,
    AV.und, AV.und, AV.und, AV.und, AV.und, AV.und, AV.und, AV.und, AV.und, AV.und, AV.und, AV.und, AV.und, AV.und, AV.und, AV.und, AV.und, AV.und, AV.und, AV.und, AV.und, AV.und, AV.und, AV.und,
    AV.und, AV.und, AV.und, AV.und, AV.und, AV.und, AV.r (RV.c (CV.f (FV.i IntKind.u64 d.snd.snd.snd.snd.snd.snd.snd.snd.fst))), AV.r (RV.c (CV.f (FV.b d.snd.snd.snd.snd.snd.snd.snd.snd.snd.fst))),
    AV.r (RV.c (CV.f (FV.b false))), AV.r (RV.c (CV.f (FV.i IntKind.u64 d.snd.snd.snd.snd.snd.snd.snd.snd.fst))), AV.r (RV.c (CV.f (FV.i IntKind.u64 d.snd.snd.snd.fst))),
    AV.r (RV.c (CV.f (FV.i IntKind.u64 d.snd.snd.snd.snd.snd.snd.snd.snd.snd.snd.fst))), AV.r (RV.c (CV.f (FV.i IntKind.u64 d.snd.snd.snd.snd.snd.snd.fst))),
    AV.r (RV.c (CV.f (FV.i IntKind.u64 d.snd.snd.snd.snd.snd.snd.snd.snd.snd.snd.snd.fst))), AV.r (RV.c (CV.f (FV.i IntKind.u64 d.snd.snd.snd.snd.fst))),
    AV.r (RV.c (CV.f (FV.i IntKind.u64 d.snd.snd.snd.snd.snd.snd.snd.snd.snd.snd.snd.snd.fst))), AV.r (RV.c (CV.f (FV.b d.snd.snd.snd.snd.snd.snd.snd.snd.snd.snd.snd.snd.snd))),
    AV.r (RV.c (CV.f (FV.b d.snd.snd.snd.snd.snd.snd.snd.snd.snd.snd.snd.snd.snd))), AV.und, AV.und, AV.und, AV.und, AV.und, AV.und, AV.und, AV.und, AV.und, AV.und, AV.und, AV.und, AV.und, AV.und,
    AV.und, AV.und, AV.und, AV.und, AV.und, AV.und, AV.und]
  [] [])))))
    (fun d c => ds_math_bits_Div64_1 f_math_bits_LeadingZeros64 (@L_math_bits_Div64_0) (@L_math_bits_Div64_1) d.1 d.2.1 d.2.2.1 d.2.2.2.1 d.2.2.2.2.1 d.2.2.2.2.2.1 d.2.2.2.2.2.2.1 d.2.2.2.2.2.2.2.1 d.2.2.2.2.2.2.2.2 c K) 200 (x0, x1, x2, x3, x4, x5, x6, x7, x8)
theorem so_math_bits_Div64_1 : ∀ kk, SumOK Try.prog (envOf [(89, F_math_bits_LeadingZeros64 f_math_bits_LeadingZeros64)]) ⟨[⟨17, [0, 1, 3, 4, 5, 6, 7, 12, 17, 18, 19, 20, 21, 22, 23, 24, 25, 26, 27, 28, 29, 30, 31, 32, 33, 34, 35, 36, 37, 38, 39, 40, 41, 42, 43, 44, 45, 46, 47, 48, 49, 50, 51, 52, 53, 54, 55, 56, 57, 58, 59, 60, 61, 62, 63, 64, 65, 66, 67, 68, 69, 78, 79, 80, 81, 82, 83, 84, 85, 86, 87, 88, 89, 90, 91, 92, 93, 94, 95, 96, 97, 98, 99, 100, 101, 102, 103, 104, 113, 114, 115, 116, 117, 118, 119, 120, 121, 122, 123, 124, 125, 126, 127, 128, 129, 130, 131, 132, 133, 134, 70, 71, 72, 73, 74, 75, 76, 77], []⟩, ⟨24, [0, 1, 3, 4, 5, 6, 7, 11, 12, 13, 19, 20, 21, 22, 23, 24, 25, 26, 27, 28, 29, 30, 31, 32, 33, 34, 35, 36, 37, 38, 39, 40, 41, 42, 43, 44, 45, 46, 47, 48, 49, 50, 51, 52, 53, 54, 55, 56, 57, 58, 59, 60, 61, 62, 63, 64, 65, 66, 67, 68, 69, 70, 71, 72, 73, 74, 75, 76, 77, 78, 79, 80, 81, 82, 83, 84, 85, 86, 87, 88, 89, 90, 91, 92, 93, 94, 95, 96, 97, 98, 99, 100, 101, 102, 103, 104, 113, 114, 115, 116, 117, 118, 119, 120, 121, 122, 123, 124, 125, 126, 127, 128, 129, 130, 131, 132, 133, 134, 105, 106, 107, 108, 109, 110, 111, 112], []⟩], [⟨17, 0, @R_math_bits_Div64_0 (@L_math_bits_Div64_0)⟩, ⟨24, 0, @R_math_bits_Div64_1 (@L_math_bits_Div64_1)⟩], [], [], none⟩ (tmpsOf Try.prog 54) kk 200 (loopIn Try.prog 54 24) :=
  SumOK.of (id := 24) (k0 := 0) (run := @R_math_bits_Div64_1 (@L_math_bits_Div64_1)) (by kernel_rfl) fun s K r hr => by
    unfold R_math_bits_Div64_1 at hr
    obtain ⟨b, hb, hr1⟩ := Option.bind_eq_some_iff.1 hr
    have e := ((Q_math_bits_Div64_1).ok s b hb).trans (q_math_bits_Div64_1 b)
    subst e
    exact ⟨200, (it_math_bits_Div64_1 b.1.2.2.1 b.1.2.2.2.2.2.2.2.2.1 b.1.2.2.2.2.2.2.2.2.2.1 b.1.2.2.2.2.2.2.2.2.2.2.1 b.1.2.2.2.2.2.2.2.2.2.2.2.2.2.2.1 b.1.2.2.2.2.2.2.2.2.2.2.2.2.2.2.2.1 b.1.2.2.2.2.2.2.2.2.2.2.2.2.2.2.2.2.1 b.1.2.2.2.2.2.2.2.2.2.2.2.2.2.2.2.2.2.1 b.1.2.2.2.2.2.2.2.2.2.2.2.2.2.2.2.2.2.2.1 K).trans hr1⟩
def K_math_bits_Div64 {ρ : Type} (g_math_bits_LeadingZeros64 : Int → Option Int) (l_0 : ∀ {ρ : Type}, (Int × Int × Int × Int × Int × Int × Int × Int × Int) → ((Int × Int × Int × Int × Int × Int × Int × Int × Int × Int × Bool × Int × Bool ⊕
  Int × Int × Int × Int × Int × Int × Int × Int × Int × Int × Bool × Int × Int × Int × Int × Bool × Bool ⊕ Int × Int × Int × Int × Int × Int × Int × Int × Int × Bool × Int × Int × Int × Bool) → Option ρ) → Option ρ) (l_1 : ∀ {ρ : Type}, (Int × Int × Int × Int × Int × Int × Int × Int × Int) → ((Int × Int × Int × Int × Int × Int × Int × Int × Int × Int × Bool × Int × Bool ⊕
  Int × Int × Int × Int × Int × Int × Int × Int × Int × Int × Bool × Int × Int × Int × Int × Bool × Bool ⊕ Int × Int × Int × Int × Int × Int × Int × Int × Int × Bool × Int × Int × Int × Bool) → Option ρ) → Option ρ) (x0 : Int) (x1 : Int) (x2 : Int) (k : (Int × Int) → Option ρ) : Option ρ :=
  bif x2 == 0 then none
  else
    bif decide (x2 ≤ x0) then none
    else
      bif x0 == 0 then bif !decide (x2 = 0) then bif !decide (x2 = 0) then k (IntKind.wrap IntKind.u64 (Int.tdiv x1 x2), Int.tmod x1 x2) else none else none
      else
        Option.bind (g_math_bits_LeadingZeros64 x2) fun (d : Int) =>
          bif !decide (IntKind.wrap IntKind.u64 d < 0) then
            bif !decide (IntKind.wrap IntKind.u64 d < 0) then
              bif !decide (IntKind.wrap IntKind.u64 (64 - IntKind.wrap IntKind.u64 d) < 0) then
                bif !decide (IntKind.wrap IntKind.u64 d < 0) then
                  bif !decide (Int.fdiv (IntKind.wrap IntKind.u64 (x2 * 2 ^ min (Int.toNat (IntKind.wrap IntKind.u64 d)) 64)) 4294967296 = 0) then
                    l_0
                      (IntKind.wrap IntKind.u64 (x2 * 2 ^ min (Int.toNat (IntKind.wrap IntKind.u64 d)) 64), IntKind.wrap IntKind.u64 d,
                        Int.fdiv (IntKind.wrap IntKind.u64 (x2 * 2 ^ min (Int.toNat (IntKind.wrap IntKind.u64 d)) 64)) 4294967296,
                        IntKind.wrap IntKind.u64
                          (Int.ofNat (BitVec.toNat (BitVec.ofInt 64 (IntKind.wrap IntKind.u64 (x2 * 2 ^ min (Int.toNat (IntKind.wrap IntKind.u64 d)) 64)) &&& BitVec.ofInt 64 4294967295))),
                        IntKind.wrap IntKind.u64
                          (Int.ofNat
                            (BitVec.toNat
                              (BitVec.ofInt 64 (IntKind.wrap IntKind.u64 (x0 * 2 ^ min (Int.toNat (IntKind.wrap IntKind.u64 d)) 64)) |||
                                BitVec.ofInt 64 (Int.fdiv x1 (2 ^ min (Int.toNat (IntKind.wrap IntKind.u64 (64 - IntKind.wrap IntKind.u64 d))) 64))))),
                        Int.fdiv (IntKind.wrap IntKind.u64 (x1 * 2 ^ min (Int.toNat (IntKind.wrap IntKind.u64 d)) 64)) 4294967296,
                        IntKind.wrap IntKind.u64
                          (Int.ofNat (BitVec.toNat (BitVec.ofInt 64 (IntKind.wrap IntKind.u64 (x1 * 2 ^ min (Int.toNat (IntKind.wrap IntKind.u64 d)) 64)) &&& BitVec.ofInt 64 4294967295))),
                        IntKind.wrap IntKind.u64
                          (Int.tdiv
                            (IntKind.wrap IntKind.u64
                              (Int.ofNat
                                (BitVec.toNat
                                  (BitVec.ofInt 64 (IntKind.wrap IntKind.u64 (x0 * 2 ^ min (Int.toNat (IntKind.wrap IntKind.u64 d)) 64)) |||
                                    BitVec.ofInt 64 (Int.fdiv x1 (2 ^ min (Int.toNat (IntKind.wrap IntKind.u64 (64 - IntKind.wrap IntKind.u64 d))) 64))))))
                            (Int.fdiv (IntKind.wrap IntKind.u64 (x2 * 2 ^ min (Int.toNat (IntKind.wrap IntKind.u64 d)) 64)) 4294967296)),
                        IntKind.wrap IntKind.u64
                          (IntKind.wrap IntKind.u64
                              (Int.ofNat
                                (BitVec.toNat
                                  (BitVec.ofInt 64 (IntKind.wrap IntKind.u64 (x0 * 2 ^ min (Int.toNat (IntKind.wrap IntKind.u64 d)) 64)) |||
                                    BitVec.ofInt 64 (Int.fdiv x1 (2 ^ min (Int.toNat (IntKind.wrap IntKind.u64 (64 - IntKind.wrap IntKind.u64 d))) 64))))) -
                            IntKind.wrap IntKind.u64
                              (IntKind.wrap IntKind.u64
                                  (Int.tdiv
                                    (IntKind.wrap IntKind.u64
                                      (Int.ofNat
                                        (BitVec.toNat
                                          (BitVec.ofInt 64 (IntKind.wrap IntKind.u64 (x0 * 2 ^ min (Int.toNat (IntKind.wrap IntKind.u64 d)) 64)) |||
                                            BitVec.ofInt 64 (Int.fdiv x1 (2 ^ min (Int.toNat (IntKind.wrap IntKind.u64 (64 - IntKind.wrap IntKind.u64 d))) 64))))))
                                    (Int.fdiv (IntKind.wrap IntKind.u64 (x2 * 2 ^ min (Int.toNat (IntKind.wrap IntKind.u64 d)) 64)) 4294967296)) *
                                Int.fdiv (IntKind.wrap IntKind.u64 (x2 * 2 ^ min (Int.toNat (IntKind.wrap IntKind.u64 d)) 64)) 4294967296)))
                      (Sum.elim
                        (fun (d : Int × Int × Int × Int × Int × Int × Int × Int × Int × Int × Bool × Int × Bool) =>
                          bif !decide (d.snd.snd.fst = 0) then
                            l_1
                              (d.fst, d.snd.fst, d.snd.snd.fst, d.snd.snd.snd.fst, d.snd.snd.snd.snd.snd.snd.fst, d.snd.snd.snd.snd.snd.snd.snd.fst,
                                IntKind.wrap IntKind.u64
                                  (IntKind.wrap IntKind.u64
                                      (IntKind.wrap IntKind.u64 (IntKind.wrap IntKind.u64 (d.snd.snd.snd.snd.fst * 4294967296) + d.snd.snd.snd.snd.snd.fst) -
                                        IntKind.wrap IntKind.u64 (d.snd.snd.snd.snd.snd.snd.snd.fst * d.fst)) -
                                    IntKind.wrap IntKind.u64
                                      (IntKind.wrap IntKind.u64
                                          (Int.tdiv
                                            (IntKind.wrap IntKind.u64
                                              (IntKind.wrap IntKind.u64 (IntKind.wrap IntKind.u64 (d.snd.snd.snd.snd.fst * 4294967296) + d.snd.snd.snd.snd.snd.fst) -
                                                IntKind.wrap IntKind.u64 (d.snd.snd.snd.snd.snd.snd.snd.fst * d.fst)))
                                            d.snd.snd.fst) *
                                        d.snd.snd.fst)),
                                IntKind.wrap IntKind.u64
                                  (IntKind.wrap IntKind.u64 (IntKind.wrap IntKind.u64 (d.snd.snd.snd.snd.fst * 4294967296) + d.snd.snd.snd.snd.snd.fst) -
                                    IntKind.wrap IntKind.u64 (d.snd.snd.snd.snd.snd.snd.snd.fst * d.fst)),
                                IntKind.wrap IntKind.u64
                                  (Int.tdiv
                                    (IntKind.wrap IntKind.u64
                                      (IntKind.wrap IntKind.u64 (IntKind.wrap IntKind.u64 (d.snd.snd.snd.snd.fst * 4294967296) + d.snd.snd.snd.snd.snd.fst) -
                                        IntKind.wrap IntKind.u64 (d.snd.snd.snd.snd.snd.snd.snd.fst * d.fst)))
                                    d.snd.snd.fst))
                              (Sum.elim
                                (fun (d : Int × Int × Int × Int × Int × Int × Int × Int × Int × Int × Bool × Int × Bool) =>
                                  bif !decide (d.snd.fst < 0) then
                                    k
                                      (IntKind.wrap IntKind.u64 (IntKind.wrap IntKind.u64 (d.snd.snd.snd.snd.snd.fst * 4294967296) + d.snd.snd.snd.snd.snd.snd.snd.snd.fst),
                                        Int.fdiv
                                          (IntKind.wrap IntKind.u64
                                            (IntKind.wrap IntKind.u64 (IntKind.wrap IntKind.u64 (d.snd.snd.snd.snd.snd.snd.snd.fst * 4294967296) + d.snd.snd.snd.snd.fst) -
                                              IntKind.wrap IntKind.u64 (d.snd.snd.snd.snd.snd.snd.snd.snd.fst * d.fst)))
                                          (2 ^ min (Int.toNat d.snd.fst) 64))
                                  else none)
                                (Sum.elim
                                  (fun (d : Int × Int × Int × Int × Int × Int × Int × Int × Int × Int × Bool × Int × Int × Int × Int × Bool × Bool) =>
                                    bif !decide (d.snd.fst < 0) then
                                      k
                                        (IntKind.wrap IntKind.u64 (IntKind.wrap IntKind.u64 (d.snd.snd.snd.snd.snd.fst * 4294967296) + d.snd.snd.snd.snd.snd.snd.snd.snd.fst),
                                          Int.fdiv
                                            (IntKind.wrap IntKind.u64
                                              (IntKind.wrap IntKind.u64 (IntKind.wrap IntKind.u64 (d.snd.snd.snd.snd.snd.snd.snd.fst * 4294967296) + d.snd.snd.snd.snd.fst) -
                                                IntKind.wrap IntKind.u64 (d.snd.snd.snd.snd.snd.snd.snd.snd.fst * d.fst)))
                                            (2 ^ min (Int.toNat d.snd.fst) 64))
                                    else none)
                                  fun (d : Int × Int × Int × Int × Int × Int × Int × Int × Int × Bool × Int × Int × Int × Bool) =>
                                  bif !decide (d.snd.fst < 0) then
                                    k
                                      (IntKind.wrap IntKind.u64 (IntKind.wrap IntKind.u64 (d.snd.snd.snd.snd.snd.fst * 4294967296) + d.snd.snd.snd.snd.snd.snd.snd.snd.fst),
                                        Int.fdiv
                                          (IntKind.wrap IntKind.u64
                                            (IntKind.wrap IntKind.u64 (IntKind.wrap IntKind.u64 (d.snd.snd.snd.snd.snd.snd.snd.fst * 4294967296) + d.snd.snd.snd.snd.fst) -
                                              IntKind.wrap IntKind.u64 (d.snd.snd.snd.snd.snd.snd.snd.snd.fst * d.fst)))
                                          (2 ^ min (Int.toNat d.snd.fst) 64))
                                  else none))
                          else none)
                        (Sum.elim
                          (fun (d : Int × Int × Int × Int × Int × Int × Int × Int × Int × Int × Bool × Int × Int × Int × Int × Bool × Bool) =>
                            bif !decide (d.snd.snd.fst = 0) then
                              l_1
                                (d.fst, d.snd.fst, d.snd.snd.fst, d.snd.snd.snd.fst, d.snd.snd.snd.snd.snd.snd.fst, d.snd.snd.snd.snd.snd.snd.snd.fst,
                                  IntKind.wrap IntKind.u64
                                    (IntKind.wrap IntKind.u64
                                        (IntKind.wrap IntKind.u64 (IntKind.wrap IntKind.u64 (d.snd.snd.snd.snd.fst * 4294967296) + d.snd.snd.snd.snd.snd.fst) -
                                          IntKind.wrap IntKind.u64 (d.snd.snd.snd.snd.snd.snd.snd.fst * d.fst)) -
                                      IntKind.wrap IntKind.u64
                                        (IntKind.wrap IntKind.u64
                                            (Int.tdiv
                                              (IntKind.wrap IntKind.u64
                                                (IntKind.wrap IntKind.u64 (IntKind.wrap IntKind.u64 (d.snd.snd.snd.snd.fst * 4294967296) + d.snd.snd.snd.snd.snd.fst) -
                                                  IntKind.wrap IntKind.u64 (d.snd.snd.snd.snd.snd.snd.snd.fst * d.fst)))
                                              d.snd.snd.fst) *
                                          d.snd.snd.fst)),
                                  IntKind.wrap IntKind.u64
                                    (IntKind.wrap IntKind.u64 (IntKind.wrap IntKind.u64 (d.snd.snd.snd.snd.fst * 4294967296) + d.snd.snd.snd.snd.snd.fst) -
                                      IntKind.wrap IntKind.u64 (d.snd.snd.snd.snd.snd.snd.snd.fst * d.fst)),
                                  IntKind.wrap IntKind.u64
                                    (Int.tdiv
                                      (IntKind.wrap IntKind.u64
                                        (IntKind.wrap IntKind.u64 (IntKind.wrap IntKind.u64 (d.snd.snd.snd.snd.fst * 4294967296) + d.snd.snd.snd.snd.snd.fst) -
                                          IntKind.wrap IntKind.u64 (d.snd.snd.snd.snd.snd.snd.snd.fst * d.fst)))
                                      d.snd.snd.fst))
                                (Sum.elim
                                  (fun (d : Int × Int × Int × Int × Int × Int × Int × Int × Int × Int × Bool × Int × Bool) =>
                                    bif !decide (d.snd.fst < 0) then
                                      k
                                        (IntKind.wrap IntKind.u64 (IntKind.wrap IntKind.u64 (d.snd.snd.snd.snd.snd.fst * 4294967296) + d.snd.snd.snd.snd.snd.snd.snd.snd.fst),
                                          Int.fdiv
                                            (IntKind.wrap IntKind.u64
                                              (IntKind.wrap IntKind.u64 (IntKind.wrap IntKind.u64 (d.snd.snd.snd.snd.snd.snd.snd.fst * 4294967296) + d.snd.snd.snd.snd.fst) -
                                                IntKind.wrap IntKind.u64 (d.snd.snd.snd.snd.snd.snd.snd.snd.fst * d.fst)))
                                            (2 ^ min (Int.toNat d.snd.fst) 64))
                                    else none)
                                  (Sum.elim
                                    (fun (d : Int × Int × Int × Int × Int × Int × Int × Int × Int × Int × Bool × Int × Int × Int × Int × Bool × Bool) =>
                                      bif !decide (d.snd.fst < 0) then
                                        k
                                          (IntKind.wrap IntKind.u64 (IntKind.wrap IntKind.u64 (d.snd.snd.snd.snd.snd.fst * 4294967296) + d.snd.snd.snd.snd.snd.snd.snd.snd.fst),
                                            Int.fdiv
                                              (IntKind.wrap IntKind.u64
                                                (IntKind.wrap IntKind.u64 (IntKind.wrap IntKind.u64 (d.snd.snd.snd.snd.snd.snd.snd.fst * 4294967296) + d.snd.snd.snd.snd.fst) -
                                                  IntKind.wrap IntKind.u64 (d.snd.snd.snd.snd.snd.snd.snd.snd.fst * d.fst)))
                                              (2 ^ min (Int.toNat d.snd.fst) 64))
                                      else none)
                                    fun (d : Int × Int × Int × Int × Int × Int × Int × Int × Int × Bool × Int × Int × Int × Bool) =>
                                    bif !decide (d.snd.fst < 0) then
                                      k
                                        (IntKind.wrap IntKind.u64 (IntKind.wrap IntKind.u64 (d.snd.snd.snd.snd.snd.fst * 4294967296) + d.snd.snd.snd.snd.snd.snd.snd.snd.fst),
                                          Int.fdiv
                                            (IntKind.wrap IntKind.u64
                                              (IntKind.wrap IntKind.u64 (IntKind.wrap IntKind.u64 (d.snd.snd.snd.snd.snd.snd.snd.fst * 4294967296) + d.snd.snd.snd.snd.fst) -
                                                IntKind.wrap IntKind.u64 (d.snd.snd.snd.snd.snd.snd.snd.snd.fst * d.fst)))
                                            (2 ^ min (Int.toNat d.snd.fst) 64))
                                    else none))
                            else none)
                          fun (d : Int × Int × Int × Int × Int × Int × Int × Int × Int × Bool × Int × Int × Int × Bool) =>
                          bif !decide (d.snd.snd.fst = 0) then
                            l_1
                              (d.fst, d.snd.fst, d.snd.snd.fst, d.snd.snd.snd.fst, d.snd.snd.snd.snd.snd.snd.fst, d.snd.snd.snd.snd.snd.snd.snd.fst,
                                IntKind.wrap IntKind.u64
                                  (IntKind.wrap IntKind.u64
                                      (IntKind.wrap IntKind.u64 (IntKind.wrap IntKind.u64 (d.snd.snd.snd.snd.fst * 4294967296) + d.snd.snd.snd.snd.snd.fst) -
                                        IntKind.wrap IntKind.u64 (d.snd.snd.snd.snd.snd.snd.snd.fst * d.fst)) -
                                    IntKind.wrap IntKind.u64
                                      (IntKind.wrap IntKind.u64
                                          (Int.tdiv
                                            (IntKind.wrap IntKind.u64
                                              (IntKind.wrap IntKind.u64 (IntKind.wrap IntKind.u64 (d.snd.snd.snd.snd.fst * 4294967296) + d.snd.snd.snd.snd.snd.fst) -
                                                IntKind.wrap IntKind.u64 (d.snd.snd.snd.snd.snd.snd.snd.fst * d.fst)))
                                            d.snd.snd.fst) *
                                        d.snd.snd.fst)),
                                IntKind.wrap IntKind.u64
                                  (IntKind.wrap IntKind.u64 (IntKind.wrap IntKind.u64 (d.snd.snd.snd.snd.fst * 4294967296) + d.snd.snd.snd.snd.snd.fst) -
                                    IntKind.wrap IntKind.u64 (d.snd.snd.snd.snd.snd.snd.snd.fst * d.fst)),
                                IntKind.wrap IntKind.u64
                                  (Int.tdiv
                                    (IntKind.wrap IntKind.u64
                                      (IntKind.wrap IntKind.u64 (IntKind.wrap IntKind.u64 (d.snd.snd.snd.snd.fst * 4294967296) + d.snd.snd.snd.snd.snd.fst) -
                                        IntKind.wrap IntKind.u64 (d.snd.snd.snd.snd.snd.snd.snd.fst * d.fst)))
                                    d.snd.snd.fst))
                              (Sum.elim
                                (fun (d : Int × Int × Int × Int × Int × Int × Int × Int × Int × Int × Bool × Int × Bool) =>
                                  bif !decide (d.snd.fst < 0) then
                                    k
                                      (IntKind.wrap IntKind.u64 (IntKind.wrap IntKind.u64 (d.snd.snd.snd.snd.snd.fst * 4294967296) + d.snd.snd.snd.snd.snd.snd.snd.snd.fst),
                                        Int.fdiv
                                          (IntKind.wrap IntKind.u64
                                            (IntKind.wrap IntKind.u64 (IntKind.wrap IntKind.u64 (d.snd.snd.snd.snd.snd.snd.snd.fst * 4294967296) + d.snd.snd.snd.snd.fst) -
                                              IntKind.wrap IntKind.u64 (d.snd.snd.snd.snd.snd.snd.snd.snd.fst * d.fst)))
                                          (2 ^ min (Int.toNat d.snd.fst) 64))
                                  else none)
                                (Sum.elim
                                  (fun (d : Int × Int × Int × Int × Int × Int × Int × Int × Int × Int × Bool × Int × Int × Int × Int × Bool × Bool) =>
                                    bif !decide (d.snd.fst < 0) then
                                      k
                                        (IntKind.wrap IntKind.u64 (IntKind.wrap IntKind.u64 (d.snd.snd.snd.snd.snd.fst * 4294967296) + d.snd.snd.snd.snd.snd.snd.snd.snd.fst),
                                          Int.fdiv
                                            (IntKind.wrap IntKind.u64
                                              (IntKind.wrap IntKind.u64 (IntKind.wrap IntKind.u64 (d.snd.snd.snd.snd.snd.snd.snd.fst * 4294967296) + d.snd.snd.snd.snd.fst) -
                                                IntKind.wrap IntKind.u64 (d.snd.snd.snd.snd.snd.snd.snd.snd.fst * d.fst)))
                                            (2 ^ min (Int.toNat d.snd.fst) 64))
                                    else none)
                                  fun (d : Int × Int × Int × Int × Int × Int × Int × Int × Int × Bool × Int × Int × Int × Bool) =>
                                  bif !decide (d.snd.fst < 0) then
                                    k
                                      (IntKind.wrap IntKind.u64 (IntKind.wrap IntKind.u64 (d.snd.snd.snd.snd.snd.fst * 4294967296) + d.snd.snd.snd.snd.snd.snd.snd.snd.fst),
                                        Int.fdiv
                                          (IntKind.wrap IntKind.u64
                                            (IntKind.wrap IntKind.u64 (IntKind.wrap IntKind.u64 (d.snd.snd.snd.snd.snd.snd.snd.fst * 4294967296) + d.snd.snd.snd.snd.fst) -
                                              IntKind.wrap IntKind.u64 (d.snd.snd.snd.snd.snd.snd.snd.snd.fst * d.fst)))
                                          (2 ^ min (Int.toNat d.snd.fst) 64))
                                  else none))
                          else none))
                  else none
                else none
              else none
            else none
          else none
def f_math_bits_Div64 (x0 : Int) (x1 : Int) (x2 : Int) : Option (Int × Int) := K_math_bits_Div64 f_math_bits_LeadingZeros64 (@L_math_bits_Div64_0) (@L_math_bits_Div64_1) x0 x1 x2 some
section
open Go.Ab.Rdr
def QA_math_bits_Div64 := ((pair (cons (ar (rc (cf (fi .u64 hole)))) (cons (ar (rc (cf (fi .u64 hole)))) (cons (ar (rc (cf (fi .u64 hole)))) nil))) nil) : Rdr (List AV × List Blk) _)
end
def F_math_bits_Div64 (f : (Int) → (Int) → (Int) → Option (Int × Int)) : Sem1 := fun args h => match (QA_math_bits_Div64).rd (args, h) with
  | some b => .opt (f b.1.1 b.1.2.1 b.1.2.2.1) fun (d : Int × Int) => .leaf (Res.mk (AV.tup [RV.c (CV.f (FV.i IntKind.u64 d.fst)), RV.c (CV.f (FV.i IntKind.u64 d.snd))]) [] [])
  | none => .fail
theorem d_math_bits_Div64 (g_math_bits_LeadingZeros64 : Int → Option Int) (l_0 : ∀ {ρ : Type}, (Int × Int × Int × Int × Int × Int × Int × Int × Int) → ((Int × Int × Int × Int × Int × Int × Int × Int × Int × Int × Bool × Int × Bool ⊕
  Int × Int × Int × Int × Int × Int × Int × Int × Int × Int × Bool × Int × Int × Int × Int × Bool × Bool ⊕ Int × Int × Int × Int × Int × Int × Int × Int × Int × Bool × Int × Int × Int × Bool) → Option ρ) → Option ρ) (l_1 : ∀ {ρ : Type}, (Int × Int × Int × Int × Int × Int × Int × Int × Int) → ((Int × Int × Int × Int × Int × Int × Int × Int × Int × Int × Bool × Int × Bool ⊕
  Int × Int × Int × Int × Int × Int × Int × Int × Int × Int × Bool × Int × Int × Int × Int × Bool × Bool ⊕ Int × Int × Int × Int × Int × Int × Int × Int × Int × Bool × Int × Int × Int × Bool) → Option ρ) → Option ρ) (x0 : Int) (x1 : Int) (x2 : Int) : den Try.prog (envOf [(89, F_math_bits_LeadingZeros64 g_math_bits_LeadingZeros64)]) ⟨[⟨17, [0, 1, 3, 4, 5, 6, 7, 12, 17, 18, 19, 20, 21, 22, 23, 24, 25, 26, 27, 28, 29, 30, 31, 32, 33, 34, 35, 36, 37, 38, 39, 40, 41, 42, 43, 44, 45, 46, 47, 48, 49, 50, 51, 52, 53, 54, 55, 56, 57, 58, 59, 60, 61, 62, 63, 64, 65, 66, 67, 68, 69, 78, 79, 80, 81, 82, 83, 84, 85, 86, 87, 88, 89, 90, 91, 92, 93, 94, 95, 96, 97, 98, 99, 100, 101, 102, 103, 104, 113, 114, 115, 116, 117, 118, 119, 120, 121, 122, 123, 124, 125, 126, 127, 128, 129, 130, 131, 132, 133, 134, 70, 71, 72, 73, 74, 75, 76, 77], []⟩, ⟨24, [0, 1, 3, 4, 5, 6, 7, 11, 12, 13, 19, 20, 21, 22, 23, 24, 25, 26, 27, 28, 29, 30, 31, 32, 33, 34, 35, 36, 37, 38, 39, 40, 41, 42, 43, 44, 45, 46, 47, 48, 49, 50, 51, 52, 53, 54, 55, 56, 57, 58, 59, 60, 61, 62, 63, 64, 65, 66, 67, 68, 69, 70, 71, 72, 73, 74, 75, 76, 77, 78, 79, 80, 81, 82, 83, 84, 85, 86, 87, 88, 89, 90, 91, 92, 93, 94, 95, 96, 97, 98, 99, 100, 101, 102, 103, 104, 113, 114, 115, 116, 117, 118, 119, 120, 121, 122, 123, 124, 125, 126, 127, 128, 129, 130, 131, 132, 133, 134, 105, 106, 107, 108, 109, 110, 111, 112], []⟩], [⟨17, 0, @R_math_bits_Div64_0 (@l_0)⟩, ⟨24, 0, @R_math_bits_Div64_1 (@l_1)⟩], [], [], none⟩ 200 54 [.r (.c (.f (.i .u64 x0))), .r (.c (.f (.i .u64 x1))), .r (.c (.f (.i .u64 x2)))] [] =
    K_math_bits_Div64 g_math_bits_LeadingZeros64 (@l_0) (@l_1) x0 x1 x2 (fun (d : Int × Int) => some (Res.mk (AV.tup [RV.c (CV.f (FV.i IntKind.u64 d.fst)), RV.c (CV.f (FV.i IntKind.u64 d.snd))]) [] [])) := by kernel_rfl
theorem m_math_bits_Div64 {ρ σ : Type} (q : ρ → Option σ) (g_math_bits_LeadingZeros64 : Int → Option Int) (l_0 : ∀ {ρ : Type}, (Int × Int × Int × Int × Int × Int × Int × Int × Int) → ((Int × Int × Int × Int × Int × Int × Int × Int × Int × Int × Bool × Int × Bool ⊕
  Int × Int × Int × Int × Int × Int × Int × Int × Int × Int × Bool × Int × Int × Int × Int × Bool × Bool ⊕ Int × Int × Int × Int × Int × Int × Int × Int × Int × Bool × Int × Int × Int × Bool) → Option ρ) → Option ρ) (l_1 : ∀ {ρ : Type}, (Int × Int × Int × Int × Int × Int × Int × Int × Int) → ((Int × Int × Int × Int × Int × Int × Int × Int × Int × Int × Bool × Int × Bool ⊕
  Int × Int × Int × Int × Int × Int × Int × Int × Int × Int × Bool × Int × Int × Int × Int × Bool × Bool ⊕ Int × Int × Int × Int × Int × Int × Int × Int × Int × Bool × Int × Int × Int × Bool) → Option ρ) → Option ρ) (hl_0 : ∀ {ρ σ : Type} (q : ρ → Option σ) (d : Int × Int × Int × Int × Int × Int × Int × Int × Int) (k : (Int × Int × Int × Int × Int × Int × Int × Int × Int × Int × Bool × Int × Bool ⊕
  Int × Int × Int × Int × Int × Int × Int × Int × Int × Int × Bool × Int × Int × Int × Int × Bool × Bool ⊕ Int × Int × Int × Int × Int × Int × Int × Int × Int × Bool × Int × Int × Int × Bool) → Option ρ), (l_0 d k).bind q = l_0 d fun x => (k x).bind q) (hl_1 : ∀ {ρ σ : Type} (q : ρ → Option σ) (d : Int × Int × Int × Int × Int × Int × Int × Int × Int) (k : (Int × Int × Int × Int × Int × Int × Int × Int × Int × Int × Bool × Int × Bool ⊕
  Int × Int × Int × Int × Int × Int × Int × Int × Int × Int × Bool × Int × Int × Int × Int × Bool × Bool ⊕ Int × Int × Int × Int × Int × Int × Int × Int × Int × Bool × Int × Int × Int × Bool) → Option ρ), (l_1 d k).bind q = l_1 d fun x => (k x).bind q) (x0 : Int) (x1 : Int) (x2 : Int) (k : (Int × Int) → Option ρ) : (K_math_bits_Div64 g_math_bits_LeadingZeros64 (@l_0) (@l_1) x0 x1 x2 k).bind q = K_math_bits_Div64 g_math_bits_LeadingZeros64 (@l_0) (@l_1) x0 x1 x2 (fun d => (k d).bind q) := by
  simp only [K_math_bits_Div64, bnd_cond, bnd_bind, bnd_none, bnd_sum, hl_0, hl_1]
theorem qa_math_bits_Div64 : ∀ b, (QA_math_bits_Div64).em b = ([.r (.c (.f (.i .u64 b.1.1))), .r (.c (.f (.i .u64 b.1.2.1))), .r (.c (.f (.i .u64 b.1.2.2.1)))], []) := fun b => by kernel_rfl
theorem e_math_bits_Div64 {f : (Int) → (Int) → (Int) → Option (Int × Int)} {args : List AV} {h : List Blk} {r : Res} (hr : (F_math_bits_Div64 f args h).eval = some r) : ∃ x0 x1 x2, args = [.r (.c (.f (.i .u64 x0))), .r (.c (.f (.i .u64 x1))), .r (.c (.f (.i .u64 x2)))] ∧ h = [] ∧ (f x0 x1 x2).bind (fun (d : Int × Int) => some (Res.mk (AV.tup [RV.c (CV.f (FV.i IntKind.u64 d.fst)), RV.c (CV.f (FV.i IntKind.u64 d.snd))]) [] [])) = some r := by
  unfold F_math_bits_Div64 at hr
  split at hr
  · rename_i b hb
    have e := ((QA_math_bits_Div64).ok _ _ hb).trans (qa_math_bits_Div64 b)
    rw [opt_eval2] at hr
    exact ⟨b.1.1, b.1.2.1, b.1.2.2.1, (Prod.mk.inj e).1, (Prod.mk.inj e).2, hr⟩
  · cases hr
theorem n_math_bits_Div64 {σ : Type} (q : (Int × Int) → Option σ) (x0 : Int) (x1 : Int) (x2 : Int) : (f_math_bits_Div64 x0 x1 x2).bind q = K_math_bits_Div64 f_math_bits_LeadingZeros64 (@L_math_bits_Div64_0) (@L_math_bits_Div64_1) x0 x1 x2 q := by
  unfold f_math_bits_Div64
  exact m_math_bits_Div64 q f_math_bits_LeadingZeros64 (@L_math_bits_Div64_0) (@L_math_bits_Div64_1) (fun q d k => mL_math_bits_Div64_0 q d k) (fun q d k => mL_math_bits_Div64_1 q d k) x0 x1 x2 some
theorem s_math_bits_Div64 : Sound Try.prog 54 (F_math_bits_Div64 f_math_bits_Div64) :=
  (inl_sums (l := [(89, F_math_bits_LeadingZeros64 f_math_bits_LeadingZeros64)]) (.cons s_math_bits_LeadingZeros64 (.nil _)) mixed (hs := ⟨[⟨17, [0, 1, 3, 4, 5, 6, 7, 12, 17, 18, 19, 20, 21, 22, 23, 24, 25, 26, 27, 28, 29, 30, 31, 32, 33, 34, 35, 36, 37, 38, 39, 40, 41, 42, 43, 44, 45, 46, 47, 48, 49, 50, 51, 52, 53, 54, 55, 56, 57, 58, 59, 60, 61, 62, 63, 64, 65, 66, 67, 68, 69, 78, 79, 80, 81, 82, 83, 84, 85, 86, 87, 88, 89, 90, 91, 92, 93, 94, 95, 96, 97, 98, 99, 100, 101, 102, 103, 104, 113, 114, 115, 116, 117, 118, 119, 120, 121, 122, 123, 124, 125, 126, 127, 128, 129, 130, 131, 132, 133, 134, 70, 71, 72, 73, 74, 75, 76, 77], []⟩, ⟨24, [0, 1, 3, 4, 5, 6, 7, 11, 12, 13, 19, 20, 21, 22, 23, 24, 25, 26, 27, 28, 29, 30, 31, 32, 33, 34, 35, 36, 37, 38, 39, 40, 41, 42, 43, 44, 45, 46, 47, 48, 49, 50, 51, 52, 53, 54, 55, 56, 57, 58, 59, 60, 61, 62, 63, 64, 65, 66, 67, 68, 69, 70, 71, 72, 73, 74, 75, 76, 77, 78, 79, 80, 81, 82, 83, 84, 85, 86, 87, 88, 89, 90, 91, 92, 93, 94, 95, 96, 97, 98, 99, 100, 101, 102, 103, 104, 113, 114, 115, 116, 117, 118, 119, 120, 121, 122, 123, 124, 125, 126, 127, 128, 129, 130, 131, 132, 133, 134, 105, 106, 107, 108, 109, 110, 111, 112], []⟩], [⟨17, 0, @R_math_bits_Div64_0 (@L_math_bits_Div64_0)⟩, ⟨24, 0, @R_math_bits_Div64_1 (@L_math_bits_Div64_1)⟩], [], [], none⟩) (lf := 200) (Sums.by (l := [loopIn Try.prog 54 17, loopIn Try.prog 54 24]) (lj := []) (by kernel_rfl) ⟨so_math_bits_Div64_0, ⟨so_math_bits_Div64_1, trivial⟩⟩ (by kernel_rfl) trivial) (by kernel_rfl)).by (F := F_math_bits_Div64 f_math_bits_Div64) fun args b r hr => by
  obtain ⟨x0, x1, x2, rfl, rfl, hr1⟩ := e_math_bits_Div64 hr
  exact inl_eval ((d_math_bits_Div64 f_math_bits_LeadingZeros64 (@L_math_bits_Div64_0) (@L_math_bits_Div64_1) x0 x1 x2).trans ((n_math_bits_Div64 (fun (d : Int × Int) => some (Res.mk (AV.tup [RV.c (CV.f (FV.i IntKind.u64 d.fst)), RV.c (CV.f (FV.i IntKind.u64 d.snd))]) [] [])) x0 x1 x2).symm.trans hr1))

def K_wide_Div {ρ : Type} (g_wide_abs : Int → Int → Option (Int × Int × Bool)) (g_wide_abs64 : Int → Option Int) (g_math_bits_Div64 : Int → Int → Int → Option (Int × Int)) (g__wide_big__plus : Int → Int → Int → Int → Option (Int × Int)) (g_wide_signed64 : Int → Int → Bool → Option (Int × Bool))  (x0 : Int) (x1 : Int) (x2 : Int) (k : (Int × Bool) → Option ρ) : Option ρ :=
  bif x2 == 0 then k (0, false)
  else
    Option.bind (g_wide_abs x0 x1) fun (d : Int × Int × Bool) =>
      Option.bind (g_wide_abs64 x2) fun (d_1 : Int) =>
        bif !decide (d_1 = 0) then
          bif !decide (d_1 = 0) then
            Option.bind (g_math_bits_Div64 (Int.tmod d.fst d_1) d.snd.fst d_1) fun (d_2 : Int × Int) =>
              bif decide (d_2.snd ≥ IntKind.wrap IntKind.u64 (d_1 - d_2.snd)) then
                Option.bind (g__wide_big__plus (IntKind.wrap IntKind.u64 (Int.tdiv d.fst d_1)) d_2.fst 0 1) fun (d_3 : Int × Int) =>
                  Option.bind (g_wide_signed64 d_3.fst d_3.snd !d.snd.snd == decide (x2 < 0)) fun (d : Int × Bool) => k (d.fst, d.snd)
              else Option.bind (g_wide_signed64 (IntKind.wrap IntKind.u64 (Int.tdiv d.fst d_1)) d_2.fst !d.snd.snd == decide (x2 < 0)) fun (d : Int × Bool) => k (d.fst, d.snd)
          else none
        else none
def f_wide_Div (x0 : Int) (x1 : Int) (x2 : Int) : Option (Int × Bool) := K_wide_Div f_wide_abs f_wide_abs64 f_math_bits_Div64 f__wide_big__plus f_wide_signed64  x0 x1 x2 some
section
open Go.Ab.Rdr
def QA_wide_Div := ((pair (cons (ar (ra (cons (gc (cf (fi .i64 hole))) (cons (gc (cf (fi .u64 hole))) nil)))) (cons (ar (rc (cf (fi .i64 hole)))) nil)) nil) : Rdr (List AV × List Blk) _)
end
def F_wide_Div (f : (Int) → (Int) → (Int) → Option (Int × Bool)) : Sem1 := fun args h => match (QA_wide_Div).rd (args, h) with
  | some b => .opt (f b.1.1.1 b.1.1.2.1 b.1.2.1) fun (d : Int × Bool) => .leaf (Res.mk (AV.tup [RV.c (CV.f (FV.i IntKind.i64 d.fst)), RV.c (CV.f (FV.b d.snd))]) [] [])
  | none => .fail
theorem d_wide_Div (g_wide_abs : Int → Int → Option (Int × Int × Bool)) (g_wide_abs64 : Int → Option Int) (g_math_bits_Div64 : Int → Int → Int → Option (Int × Int)) (g__wide_big__plus : Int → Int → Int → Int → Option (Int × Int)) (g_wide_signed64 : Int → Int → Bool → Option (Int × Bool))  (x0 : Int) (x1 : Int) (x2 : Int) : den Try.prog (envOf [(52, F_wide_abs g_wide_abs), (53, F_wide_abs64 g_wide_abs64), (54, F_math_bits_Div64 g_math_bits_Div64), (47, F__wide_big__plus g__wide_big__plus), (51, F_wide_signed64 g_wide_signed64)]) ⟨[], [], [], [], none⟩ 200 18 [.r (.agg [.c (.f (.i .i64 x0)), .c (.f (.i .u64 x1))]), .r (.c (.f (.i .i64 x2)))] [] =
    K_wide_Div g_wide_abs g_wide_abs64 g_math_bits_Div64 g__wide_big__plus g_wide_signed64  x0 x1 x2 (fun (d : Int × Bool) => some (Res.mk (AV.tup [RV.c (CV.f (FV.i IntKind.i64 d.fst)), RV.c (CV.f (FV.b d.snd))]) [] [])) := by kernel_rfl
theorem m_wide_Div {ρ σ : Type} (q : ρ → Option σ) (g_wide_abs : Int → Int → Option (Int × Int × Bool)) (g_wide_abs64 : Int → Option Int) (g_math_bits_Div64 : Int → Int → Int → Option (Int × Int)) (g__wide_big__plus : Int → Int → Int → Int → Option (Int × Int)) (g_wide_signed64 : Int → Int → Bool → Option (Int × Bool))   (x0 : Int) (x1 : Int) (x2 : Int) (k : (Int × Bool) → Option ρ) : (K_wide_Div g_wide_abs g_wide_abs64 g_math_bits_Div64 g__wide_big__plus g_wide_signed64  x0 x1 x2 k).bind q = K_wide_Div g_wide_abs g_wide_abs64 g_math_bits_Div64 g__wide_big__plus g_wide_signed64  x0 x1 x2 (fun d => (k d).bind q) := by
  simp only [K_wide_Div, bnd_cond, bnd_bind, bnd_none, bnd_sum]
theorem qa_wide_Div : ∀ b, (QA_wide_Div).em b = ([.r (.agg [.c (.f (.i .i64 b.1.1.1)), .c (.f (.i .u64 b.1.1.2.1))]), .r (.c (.f (.i .i64 b.1.2.1)))], []) := fun b => by kernel_rfl
theorem e_wide_Div {f : (Int) → (Int) → (Int) → Option (Int × Bool)} {args : List AV} {h : List Blk} {r : Res} (hr : (F_wide_Div f args h).eval = some r) : ∃ x0 x1 x2, args = [.r (.agg [.c (.f (.i .i64 x0)), .c (.f (.i .u64 x1))]), .r (.c (.f (.i .i64 x2)))] ∧ h = [] ∧ (f x0 x1 x2).bind (fun (d : Int × Bool) => some (Res.mk (AV.tup [RV.c (CV.f (FV.i IntKind.i64 d.fst)), RV.c (CV.f (FV.b d.snd))]) [] [])) = some r := by
  unfold F_wide_Div at hr
  split at hr
  · rename_i b hb
    have e := ((QA_wide_Div).ok _ _ hb).trans (qa_wide_Div b)
    rw [opt_eval2] at hr
    exact ⟨b.1.1.1, b.1.1.2.1, b.1.2.1, (Prod.mk.inj e).1, (Prod.mk.inj e).2, hr⟩
  · cases hr
theorem n_wide_Div {σ : Type} (q : (Int × Bool) → Option σ) (x0 : Int) (x1 : Int) (x2 : Int) : (f_wide_Div x0 x1 x2).bind q = K_wide_Div f_wide_abs f_wide_abs64 f_math_bits_Div64 f__wide_big__plus f_wide_signed64  x0 x1 x2 q := by
  unfold f_wide_Div
  exact m_wide_Div q f_wide_abs f_wide_abs64 f_math_bits_Div64 f__wide_big__plus f_wide_signed64   x0 x1 x2 some
theorem s_wide_Div : Sound Try.prog 18 (F_wide_Div f_wide_Div) :=
  (inl_sound (l := [(52, F_wide_abs f_wide_abs), (53, F_wide_abs64 f_wide_abs64), (54, F_math_bits_Div64 f_math_bits_Div64), (47, F__wide_big__plus f__wide_big__plus), (51, F_wide_signed64 f_wide_signed64)]) (.cons s_wide_abs (.cons s_wide_abs64 (.cons s_math_bits_Div64 (.cons s__wide_big__plus (.cons s_wide_signed64 (.nil _)))))) mixed [] [] 200 (by kernel_rfl)).by (F := F_wide_Div f_wide_Div) fun args b r hr => by
  obtain ⟨x0, x1, x2, rfl, rfl, hr1⟩ := e_wide_Div hr
  exact inl_eval ((d_wide_Div f_wide_abs f_wide_abs64 f_math_bits_Div64 f__wide_big__plus f_wide_signed64  x0 x1 x2).trans ((n_wide_Div (fun (d : Int × Bool) => some (Res.mk (AV.tup [RV.c (CV.f (FV.i IntKind.i64 d.fst)), RV.c (CV.f (FV.b d.snd))]) [] [])) x0 x1 x2).symm.trans hr1))

end Go.Proofs.Ytcalippagaaikaa
end
/-
  Contracts by plain functions: fx.Abs, (*fx.Acc).by, (*fx.Acc).MulDiv, (*fx.Acc).Div, root.end, root.Sqrt, trig.Wrap, trig.m, trig.series, trig.Sin, trig.Cos, earth.Good, earth.New, (*earth.Frame).To
-/
section
set_option maxRecDepth 100000
set_option maxHeartbeats 4000000
set_option linter.unusedVariables false
namespace Go.Proofs.Ytcalippagaaikaa
open Go.Ab
def K_fx_Abs {ρ : Type}   (x0 : Int) (k : (Int) → Option ρ) : Option ρ :=
  bif decide (x0 ≥ 1152921504606846976) then k 1152921504606846976
  else bif decide (x0 ≤ -1152921504606846976) then k 1152921504606846976 else bif decide (x0 < 0) then k (IntKind.wrap IntKind.i64 (0 - x0)) else k x0
def f_fx_Abs (x0 : Int) : Option (Int) := K_fx_Abs   x0 some
section
open Go.Ab.Rdr
def QA_fx_Abs := ((pair (cons (ar (rc (cf (fi .i64 hole)))) nil) nil) : Rdr (List AV × List Blk) _)
end
def F_fx_Abs (f : (Int) → Option (Int)) : Sem1 := fun args h => match (QA_fx_Abs).rd (args, h) with
  | some b => .opt (f b.1.1) fun (d : Int) => .leaf (Res.mk (AV.r (RV.c (CV.f (FV.i IntKind.i64 d)))) [] [])
  | none => .fail
theorem d_fx_Abs   (x0 : Int) : den Try.prog (envOf []) ⟨[], [], [], [], none⟩ 200 95 [.r (.c (.f (.i .i64 x0)))] [] =
    K_fx_Abs   x0 (fun (d : Int) => some (Res.mk (AV.r (RV.c (CV.f (FV.i IntKind.i64 d)))) [] [])) := by kernel_rfl
theorem m_fx_Abs {ρ σ : Type} (q : ρ → Option σ)    (x0 : Int) (k : (Int) → Option ρ) : (K_fx_Abs   x0 k).bind q = K_fx_Abs   x0 (fun d => (k d).bind q) := by
  simp only [K_fx_Abs, bnd_cond, bnd_bind, bnd_none, bnd_sum]
theorem qa_fx_Abs : ∀ b, (QA_fx_Abs).em b = ([.r (.c (.f (.i .i64 b.1.1)))], []) := fun b => by kernel_rfl
theorem e_fx_Abs {f : (Int) → Option (Int)} {args : List AV} {h : List Blk} {r : Res} (hr : (F_fx_Abs f args h).eval = some r) : ∃ x0, args = [.r (.c (.f (.i .i64 x0)))] ∧ h = [] ∧ (f x0).bind (fun (d : Int) => some (Res.mk (AV.r (RV.c (CV.f (FV.i IntKind.i64 d)))) [] [])) = some r := by
  unfold F_fx_Abs at hr
  split at hr
  · rename_i b hb
    have e := ((QA_fx_Abs).ok _ _ hb).trans (qa_fx_Abs b)
    rw [opt_eval2] at hr
    exact ⟨b.1.1, (Prod.mk.inj e).1, (Prod.mk.inj e).2, hr⟩
  · cases hr
theorem n_fx_Abs {σ : Type} (q : (Int) → Option σ) (x0 : Int) : (f_fx_Abs x0).bind q = K_fx_Abs   x0 q := by
  unfold f_fx_Abs
  exact m_fx_Abs q    x0 some
theorem s_fx_Abs : Sound Try.prog 95 (F_fx_Abs f_fx_Abs) :=
  (inl_sound (l := []) (.nil _) mixed [] [] 200 (by kernel_rfl)).by (F := F_fx_Abs f_fx_Abs) fun args b r hr => by
  obtain ⟨x0, rfl, rfl, hr1⟩ := e_fx_Abs hr
  exact inl_eval ((d_fx_Abs   x0).trans ((n_fx_Abs (fun (d : Int) => some (Res.mk (AV.r (RV.c (CV.f (FV.i IntKind.i64 d)))) [] [])) x0).symm.trans hr1))

def K___fx_Acc__by {ρ : Type} (g_fx_sign : Bool → Option Int) (g_wide_Div : Int → Int → Int → Option (Int × Bool)) (g___fx_Acc__end : Int → Bool → Bool → Bool → Option (Int × Bool))  (x0 : Int) (x1 : Int) (x2 : Int) (x3 : Bool) (k : (Int × Bool) → Option ρ) : Option ρ :=
  bif x2 == 0 then bif x0 == 0 && (x1 == 0 && true) then k (0, true) else Option.bind (g_fx_sign (decide (x0 < 0))) fun (d : Int) => k (d, true)
  else Option.bind (g_wide_Div x0 x1 x2) fun (d : Int × Bool) => Option.bind (g___fx_Acc__end d.fst d.snd (!decide (x0 < 0) == decide (x2 < 0)) x3) fun (d : Int × Bool) => k (d.fst, d.snd)
def f___fx_Acc__by (x0 : Int) (x1 : Int) (x2 : Int) (x3 : Bool) : Option (Int × Bool) := K___fx_Acc__by f_fx_sign f_wide_Div f___fx_Acc__end  x0 x1 x2 x3 some
section
open Go.Ab.Rdr
def QA___fx_Acc__by := ((pair (cons (ar (rc (cptr (nat 0) (ok' (nat 0)) (nat 1)))) (cons (ar (ra (cons (gc (cf (fi .i64 hole))) (cons (gc (cf (fi .u64 hole))) nil)))) (cons (ar (rc (cf (fi .i64 hole)))) nil))) (cons (cons (gc (cf (fb hole))) nil) nil)) : Rdr (List AV × List Blk) _)
end
def F___fx_Acc__by (f : (Int) → (Int) → (Int) → (Bool) → Option (Int × Bool)) : Sem1 := fun args h => match (QA___fx_Acc__by).rd (args, h) with
  | some b => .opt (f b.1.2.1.1 b.1.2.1.2.1 b.1.2.2.1 b.2.1.1) fun (d : Int × Bool) => .leaf (Res.mk (AV.r (RV.c (CV.f (FV.i IntKind.i64 d.fst)))) [Ch.set [Sg.c (CV.f (FV.b d.snd))]] [])
  | none => .fail
theorem d___fx_Acc__by (g_fx_sign : Bool → Option Int) (g_wide_Div : Int → Int → Int → Option (Int × Bool)) (g___fx_Acc__end : Int → Bool → Bool → Bool → Option (Int × Bool))  (x0 : Int) (x1 : Int) (x2 : Int) (x3 : Bool) : den Try.prog (envOf [(113, F_fx_sign g_fx_sign), (18, F_wide_Div g_wide_Div), (112, F___fx_Acc__end g___fx_Acc__end)]) ⟨[], [], [], [], none⟩ 200 93 [.r (.c (.ptr 0 (.k 0) 1)), .r (.agg [.c (.f (.i .i64 x0)), .c (.f (.i .u64 x1))]), .r (.c (.f (.i .i64 x2)))] [[.c (.f (.b x3))]] =
    K___fx_Acc__by g_fx_sign g_wide_Div g___fx_Acc__end  x0 x1 x2 x3 (fun (d : Int × Bool) => some (Res.mk (AV.r (RV.c (CV.f (FV.i IntKind.i64 d.fst)))) [Ch.set [Sg.c (CV.f (FV.b d.snd))]] [])) := by kernel_rfl
theorem m___fx_Acc__by {ρ σ : Type} (q : ρ → Option σ) (g_fx_sign : Bool → Option Int) (g_wide_Div : Int → Int → Int → Option (Int × Bool)) (g___fx_Acc__end : Int → Bool → Bool → Bool → Option (Int × Bool))   (x0 : Int) (x1 : Int) (x2 : Int) (x3 : Bool) (k : (Int × Bool) → Option ρ) : (K___fx_Acc__by g_fx_sign g_wide_Div g___fx_Acc__end  x0 x1 x2 x3 k).bind q = K___fx_Acc__by g_fx_sign g_wide_Div g___fx_Acc__end  x0 x1 x2 x3 (fun d => (k d).bind q) := by
  simp only [K___fx_Acc__by, bnd_cond, bnd_bind, bnd_none, bnd_sum]
theorem qa___fx_Acc__by : ∀ b, (QA___fx_Acc__by).em b = ([.r (.c (.ptr 0 (.k 0) 1)), .r (.agg [.c (.f (.i .i64 b.1.2.1.1)), .c (.f (.i .u64 b.1.2.1.2.1))]), .r (.c (.f (.i .i64 b.1.2.2.1)))], [[.c (.f (.b b.2.1.1))]]) := fun b => by kernel_rfl
theorem e___fx_Acc__by {f : (Int) → (Int) → (Int) → (Bool) → Option (Int × Bool)} {args : List AV} {h : List Blk} {r : Res} (hr : (F___fx_Acc__by f args h).eval = some r) : ∃ x0 x1 x2 x3, args = [.r (.c (.ptr 0 (.k 0) 1)), .r (.agg [.c (.f (.i .i64 x0)), .c (.f (.i .u64 x1))]), .r (.c (.f (.i .i64 x2)))] ∧ h = [[.c (.f (.b x3))]] ∧ (f x0 x1 x2 x3).bind (fun (d : Int × Bool) => some (Res.mk (AV.r (RV.c (CV.f (FV.i IntKind.i64 d.fst)))) [Ch.set [Sg.c (CV.f (FV.b d.snd))]] [])) = some r := by
  unfold F___fx_Acc__by at hr
  split at hr
  · rename_i b hb
    have e := ((QA___fx_Acc__by).ok _ _ hb).trans (qa___fx_Acc__by b)
    rw [opt_eval2] at hr
    exact ⟨b.1.2.1.1, b.1.2.1.2.1, b.1.2.2.1, b.2.1.1, (Prod.mk.inj e).1, (Prod.mk.inj e).2, hr⟩
  · cases hr
theorem n___fx_Acc__by {σ : Type} (q : (Int × Bool) → Option σ) (x0 : Int) (x1 : Int) (x2 : Int) (x3 : Bool) : (f___fx_Acc__by x0 x1 x2 x3).bind q = K___fx_Acc__by f_fx_sign f_wide_Div f___fx_Acc__end  x0 x1 x2 x3 q := by
  unfold f___fx_Acc__by
  exact m___fx_Acc__by q f_fx_sign f_wide_Div f___fx_Acc__end   x0 x1 x2 x3 some
theorem s___fx_Acc__by : Sound Try.prog 93 (F___fx_Acc__by f___fx_Acc__by) :=
  (inl_sound (l := [(113, F_fx_sign f_fx_sign), (18, F_wide_Div f_wide_Div), (112, F___fx_Acc__end f___fx_Acc__end)]) (.cons s_fx_sign (.cons s_wide_Div (.cons s___fx_Acc__end (.nil _)))) mixed [] [] 200 (by kernel_rfl)).by (F := F___fx_Acc__by f___fx_Acc__by) fun args b r hr => by
  obtain ⟨x0, x1, x2, x3, rfl, rfl, hr1⟩ := e___fx_Acc__by hr
  exact inl_eval ((d___fx_Acc__by f_fx_sign f_wide_Div f___fx_Acc__end  x0 x1 x2 x3).trans ((n___fx_Acc__by (fun (d : Int × Bool) => some (Res.mk (AV.r (RV.c (CV.f (FV.i IntKind.i64 d.fst)))) [Ch.set [Sg.c (CV.f (FV.b d.snd))]] [])) x0 x1 x2 x3).symm.trans hr1))

def K___fx_Acc__MulDiv {ρ : Type} (g___fx_Acc__Sat : Int → Bool → Option (Int × Bool)) (g_wide_Mul : Int → Int → Option (Int × Int)) (g___fx_Acc__by : Int → Int → Int → Bool → Option (Int × Bool))  (x0 : Int) (x1 : Int) (x2 : Int) (x3 : Bool) (k : (Int × Bool) → Option ρ) : Option ρ :=
  Option.bind (g___fx_Acc__Sat x0 x3) fun (d : Int × Bool) =>
    Option.bind (g___fx_Acc__Sat x1 d.snd) fun (d_1 : Int × Bool) =>
      Option.bind (g_wide_Mul d.fst d_1.fst) fun (d : Int × Int) =>
        Option.bind (g___fx_Acc__Sat x2 d_1.snd) fun (d_2 : Int × Bool) => Option.bind (g___fx_Acc__by d.fst d.snd d_2.fst d_2.snd) fun (d : Int × Bool) => k (d.fst, d.snd)
def f___fx_Acc__MulDiv (x0 : Int) (x1 : Int) (x2 : Int) (x3 : Bool) : Option (Int × Bool) := K___fx_Acc__MulDiv f___fx_Acc__Sat f_wide_Mul f___fx_Acc__by  x0 x1 x2 x3 some
section
open Go.Ab.Rdr
def QA___fx_Acc__MulDiv := ((pair (cons (ar (rc (cptr (nat 0) (ok' (nat 0)) (nat 1)))) (cons (ar (rc (cf (fi .i64 hole)))) (cons (ar (rc (cf (fi .i64 hole)))) (cons (ar (rc (cf (fi .i64 hole)))) nil)))) (cons (cons (gc (cf (fb hole))) nil) nil)) : Rdr (List AV × List Blk) _)
end
def F___fx_Acc__MulDiv (f : (Int) → (Int) → (Int) → (Bool) → Option (Int × Bool)) : Sem1 := fun args h => match (QA___fx_Acc__MulDiv).rd (args, h) with
  | some b => .opt (f b.1.2.1 b.1.2.2.1 b.1.2.2.2.1 b.2.1.1) fun (d : Int × Bool) => .leaf (Res.mk (AV.r (RV.c (CV.f (FV.i IntKind.i64 d.fst)))) [Ch.set [Sg.c (CV.f (FV.b d.snd))]] [])
  | none => .fail
theorem d___fx_Acc__MulDiv (g___fx_Acc__Sat : Int → Bool → Option (Int × Bool)) (g_wide_Mul : Int → Int → Option (Int × Int)) (g___fx_Acc__by : Int → Int → Int → Bool → Option (Int × Bool))  (x0 : Int) (x1 : Int) (x2 : Int) (x3 : Bool) : den Try.prog (envOf [(91, F___fx_Acc__Sat g___fx_Acc__Sat), (23, F_wide_Mul g_wide_Mul), (93, F___fx_Acc__by g___fx_Acc__by)]) ⟨[], [], [], [], none⟩ 200 68 [.r (.c (.ptr 0 (.k 0) 1)), .r (.c (.f (.i .i64 x0))), .r (.c (.f (.i .i64 x1))), .r (.c (.f (.i .i64 x2)))] [[.c (.f (.b x3))]] =
    K___fx_Acc__MulDiv g___fx_Acc__Sat g_wide_Mul g___fx_Acc__by  x0 x1 x2 x3 (fun (d : Int × Bool) => some (Res.mk (AV.r (RV.c (CV.f (FV.i IntKind.i64 d.fst)))) [Ch.set [Sg.c (CV.f (FV.b d.snd))]] [])) := by kernel_rfl
theorem m___fx_Acc__MulDiv {ρ σ : Type} (q : ρ → Option σ) (g___fx_Acc__Sat : Int → Bool → Option (Int × Bool)) (g_wide_Mul : Int → Int → Option (Int × Int)) (g___fx_Acc__by : Int → Int → Int → Bool → Option (Int × Bool))   (x0 : Int) (x1 : Int) (x2 : Int) (x3 : Bool) (k : (Int × Bool) → Option ρ) : (K___fx_Acc__MulDiv g___fx_Acc__Sat g_wide_Mul g___fx_Acc__by  x0 x1 x2 x3 k).bind q = K___fx_Acc__MulDiv g___fx_Acc__Sat g_wide_Mul g___fx_Acc__by  x0 x1 x2 x3 (fun d => (k d).bind q) := by
  simp only [K___fx_Acc__MulDiv, bnd_cond, bnd_bind, bnd_none, bnd_sum]
theorem qa___fx_Acc__MulDiv : ∀ b, (QA___fx_Acc__MulDiv).em b = ([.r (.c (.ptr 0 (.k 0) 1)), .r (.c (.f (.i .i64 b.1.2.1))), .r (.c (.f (.i .i64 b.1.2.2.1))), .r (.c (.f (.i .i64 b.1.2.2.2.1)))], [[.c (.f (.b b.2.1.1))]]) := fun b => by kernel_rfl
theorem e___fx_Acc__MulDiv {f : (Int) → (Int) → (Int) → (Bool) → Option (Int × Bool)} {args : List AV} {h : List Blk} {r : Res} (hr : (F___fx_Acc__MulDiv f args h).eval = some r) : ∃ x0 x1 x2 x3, args = [.r (.c (.ptr 0 (.k 0) 1)), .r (.c (.f (.i .i64 x0))), .r (.c (.f (.i .i64 x1))), .r (.c (.f (.i .i64 x2)))] ∧ h = [[.c (.f (.b x3))]] ∧ (f x0 x1 x2 x3).bind (fun (d : Int × Bool) => some (Res.mk (AV.r (RV.c (CV.f (FV.i IntKind.i64 d.fst)))) [Ch.set [Sg.c (CV.f (FV.b d.snd))]] [])) = some r := by
  unfold F___fx_Acc__MulDiv at hr
  split at hr
  · rename_i b hb
    have e := ((QA___fx_Acc__MulDiv).ok _ _ hb).trans (qa___fx_Acc__MulDiv b)
    rw [opt_eval2] at hr
    exact ⟨b.1.2.1, b.1.2.2.1, b.1.2.2.2.1, b.2.1.1, (Prod.mk.inj e).1, (Prod.mk.inj e).2, hr⟩
  · cases hr
theorem n___fx_Acc__MulDiv {σ : Type} (q : (Int × Bool) → Option σ) (x0 : Int) (x1 : Int) (x2 : Int) (x3 : Bool) : (f___fx_Acc__MulDiv x0 x1 x2 x3).bind q = K___fx_Acc__MulDiv f___fx_Acc__Sat f_wide_Mul f___fx_Acc__by  x0 x1 x2 x3 q := by
  unfold f___fx_Acc__MulDiv
  exact m___fx_Acc__MulDiv q f___fx_Acc__Sat f_wide_Mul f___fx_Acc__by   x0 x1 x2 x3 some
theorem s___fx_Acc__MulDiv : Sound Try.prog 68 (F___fx_Acc__MulDiv f___fx_Acc__MulDiv) :=
  (inl_sound (l := [(91, F___fx_Acc__Sat f___fx_Acc__Sat), (23, F_wide_Mul f_wide_Mul), (93, F___fx_Acc__by f___fx_Acc__by)]) (.cons s___fx_Acc__Sat (.cons s_wide_Mul (.cons s___fx_Acc__by (.nil _)))) mixed [] [] 200 (by kernel_rfl)).by (F := F___fx_Acc__MulDiv f___fx_Acc__MulDiv) fun args b r hr => by
  obtain ⟨x0, x1, x2, x3, rfl, rfl, hr1⟩ := e___fx_Acc__MulDiv hr
  exact inl_eval ((d___fx_Acc__MulDiv f___fx_Acc__Sat f_wide_Mul f___fx_Acc__by  x0 x1 x2 x3).trans ((n___fx_Acc__MulDiv (fun (d : Int × Bool) => some (Res.mk (AV.r (RV.c (CV.f (FV.i IntKind.i64 d.fst)))) [Ch.set [Sg.c (CV.f (FV.b d.snd))]] [])) x0 x1 x2 x3).symm.trans hr1))

def K___fx_Acc__Div {ρ : Type} (g___fx_Acc__Sat : Int → Bool → Option (Int × Bool)) (g_wide_Shift : Int → Int → Option (Int × Int × Bool)) (g___fx_Acc__by : Int → Int → Int → Bool → Option (Int × Bool))  (x0 : Int) (x1 : Int) (x2 : Int) (x3 : Bool) (k : (Int × Bool) → Option ρ) : Option ρ :=
  Option.bind (g___fx_Acc__Sat x0 x3) fun (d : Int × Bool) =>
    Option.bind (g___fx_Acc__Sat x1 d.snd) fun (d_1 : Int × Bool) =>
      bif decide (x2 < 0) then k (0, true)
      else
        bif decide (x2 > 66) then k (0, true)
        else Option.bind (g_wide_Shift d.fst x2) fun (d : Int × Int × Bool) => Option.bind (g___fx_Acc__by d.fst d.snd.fst d_1.fst d_1.snd) fun (d : Int × Bool) => k (d.fst, d.snd)
def f___fx_Acc__Div (x0 : Int) (x1 : Int) (x2 : Int) (x3 : Bool) : Option (Int × Bool) := K___fx_Acc__Div f___fx_Acc__Sat f_wide_Shift f___fx_Acc__by  x0 x1 x2 x3 some
section
open Go.Ab.Rdr
def QA___fx_Acc__Div := ((pair (cons (ar (rc (cptr (nat 0) (ok' (nat 0)) (nat 1)))) (cons (ar (rc (cf (fi .i64 hole)))) (cons (ar (rc (cf (fi .i64 hole)))) (cons (ar (rc (cf (fi .i64 hole)))) nil)))) (cons (cons (gc (cf (fb hole))) nil) nil)) : Rdr (List AV × List Blk) _)
end
def F___fx_Acc__Div (f : (Int) → (Int) → (Int) → (Bool) → Option (Int × Bool)) : Sem1 := fun args h => match (QA___fx_Acc__Div).rd (args, h) with
  | some b => .opt (f b.1.2.1 b.1.2.2.1 b.1.2.2.2.1 b.2.1.1) fun (d : Int × Bool) => .leaf (Res.mk (AV.r (RV.c (CV.f (FV.i IntKind.i64 d.fst)))) [Ch.set [Sg.c (CV.f (FV.b d.snd))]] [])
  | none => .fail
theorem d___fx_Acc__Div (g___fx_Acc__Sat : Int → Bool → Option (Int × Bool)) (g_wide_Shift : Int → Int → Option (Int × Int × Bool)) (g___fx_Acc__by : Int → Int → Int → Bool → Option (Int × Bool))  (x0 : Int) (x1 : Int) (x2 : Int) (x3 : Bool) : den Try.prog (envOf [(91, F___fx_Acc__Sat g___fx_Acc__Sat), (31, F_wide_Shift g_wide_Shift), (93, F___fx_Acc__by g___fx_Acc__by)]) ⟨[], [], [], [], none⟩ 200 72 [.r (.c (.ptr 0 (.k 0) 1)), .r (.c (.f (.i .i64 x0))), .r (.c (.f (.i .i64 x1))), .r (.c (.f (.i .i64 x2)))] [[.c (.f (.b x3))]] =
    K___fx_Acc__Div g___fx_Acc__Sat g_wide_Shift g___fx_Acc__by  x0 x1 x2 x3 (fun (d : Int × Bool) => some (Res.mk (AV.r (RV.c (CV.f (FV.i IntKind.i64 d.fst)))) [Ch.set [Sg.c (CV.f (FV.b d.snd))]] [])) := by kernel_rfl
theorem m___fx_Acc__Div {ρ σ : Type} (q : ρ → Option σ) (g___fx_Acc__Sat : Int → Bool → Option (Int × Bool)) (g_wide_Shift : Int → Int → Option (Int × Int × Bool)) (g___fx_Acc__by : Int → Int → Int → Bool → Option (Int × Bool))   (x0 : Int) (x1 : Int) (x2 : Int) (x3 : Bool) (k : (Int × Bool) → Option ρ) : (K___fx_Acc__Div g___fx_Acc__Sat g_wide_Shift g___fx_Acc__by  x0 x1 x2 x3 k).bind q = K___fx_Acc__Div g___fx_Acc__Sat g_wide_Shift g___fx_Acc__by  x0 x1 x2 x3 (fun d => (k d).bind q) := by
  simp only [K___fx_Acc__Div, bnd_cond, bnd_bind, bnd_none, bnd_sum]
theorem qa___fx_Acc__Div : ∀ b, (QA___fx_Acc__Div).em b = ([.r (.c (.ptr 0 (.k 0) 1)), .r (.c (.f (.i .i64 b.1.2.1))), .r (.c (.f (.i .i64 b.1.2.2.1))), .r (.c (.f (.i .i64 b.1.2.2.2.1)))], [[.c (.f (.b b.2.1.1))]]) := fun b => by kernel_rfl
theorem e___fx_Acc__Div {f : (Int) → (Int) → (Int) → (Bool) → Option (Int × Bool)} {args : List AV} {h : List Blk} {r : Res} (hr : (F___fx_Acc__Div f args h).eval = some r) : ∃ x0 x1 x2 x3, args = [.r (.c (.ptr 0 (.k 0) 1)), .r (.c (.f (.i .i64 x0))), .r (.c (.f (.i .i64 x1))), .r (.c (.f (.i .i64 x2)))] ∧ h = [[.c (.f (.b x3))]] ∧ (f x0 x1 x2 x3).bind (fun (d : Int × Bool) => some (Res.mk (AV.r (RV.c (CV.f (FV.i IntKind.i64 d.fst)))) [Ch.set [Sg.c (CV.f (FV.b d.snd))]] [])) = some r := by
  unfold F___fx_Acc__Div at hr
  split at hr
  · rename_i b hb
    have e := ((QA___fx_Acc__Div).ok _ _ hb).trans (qa___fx_Acc__Div b)
    rw [opt_eval2] at hr
    exact ⟨b.1.2.1, b.1.2.2.1, b.1.2.2.2.1, b.2.1.1, (Prod.mk.inj e).1, (Prod.mk.inj e).2, hr⟩
  · cases hr
theorem n___fx_Acc__Div {σ : Type} (q : (Int × Bool) → Option σ) (x0 : Int) (x1 : Int) (x2 : Int) (x3 : Bool) : (f___fx_Acc__Div x0 x1 x2 x3).bind q = K___fx_Acc__Div f___fx_Acc__Sat f_wide_Shift f___fx_Acc__by  x0 x1 x2 x3 q := by
  unfold f___fx_Acc__Div
  exact m___fx_Acc__Div q f___fx_Acc__Sat f_wide_Shift f___fx_Acc__by   x0 x1 x2 x3 some
theorem s___fx_Acc__Div : Sound Try.prog 72 (F___fx_Acc__Div f___fx_Acc__Div) :=
  (inl_sound (l := [(91, F___fx_Acc__Sat f___fx_Acc__Sat), (31, F_wide_Shift f_wide_Shift), (93, F___fx_Acc__by f___fx_Acc__by)]) (.cons s___fx_Acc__Sat (.cons s_wide_Shift (.cons s___fx_Acc__by (.nil _)))) mixed [] [] 200 (by kernel_rfl)).by (F := F___fx_Acc__Div f___fx_Acc__Div) fun args b r hr => by
  obtain ⟨x0, x1, x2, x3, rfl, rfl, hr1⟩ := e___fx_Acc__Div hr
  exact inl_eval ((d___fx_Acc__Div f___fx_Acc__Sat f_wide_Shift f___fx_Acc__by  x0 x1 x2 x3).trans ((n___fx_Acc__Div (fun (d : Int × Bool) => some (Res.mk (AV.r (RV.c (CV.f (FV.i IntKind.i64 d.fst)))) [Ch.set [Sg.c (CV.f (FV.b d.snd))]] [])) x0 x1 x2 x3).symm.trans hr1))

def K_root_end {ρ : Type} (g_wide_Root : Int → Int → Option (Int × Bool)) (g___fx_Acc__Sat : Int → Bool → Option (Int × Bool))  (x0 : Int) (x1 : Int) (x2 : Bool) (k : (Int × Bool) → Option ρ) : Option ρ :=
  Option.bind (g_wide_Root x0 x1) fun (d : Int × Bool) =>
    bif !d.snd then Option.bind (g___fx_Acc__Sat 1152921504606846977 x2) fun (d : Int × Bool) => k (d.fst, d.snd) else Option.bind (g___fx_Acc__Sat d.fst x2) fun (d : Int × Bool) => k (d.fst, d.snd)
def f_root_end (x0 : Int) (x1 : Int) (x2 : Bool) : Option (Int × Bool) := K_root_end f_wide_Root f___fx_Acc__Sat  x0 x1 x2 some
section
open Go.Ab.Rdr
def QA_root_end := ((pair (cons (ar (rc (cptr (nat 0) (ok' (nat 0)) (nat 1)))) (cons (ar (ra (cons (gc (cf (fi .i64 hole))) (cons (gc (cf (fi .u64 hole))) nil)))) nil)) (cons (cons (gc (cf (fb hole))) nil) nil)) : Rdr (List AV × List Blk) _)
end
def F_root_end (f : (Int) → (Int) → (Bool) → Option (Int × Bool)) : Sem1 := fun args h => match (QA_root_end).rd (args, h) with
  | some b => .opt (f b.1.2.1.1 b.1.2.1.2.1 b.2.1.1) fun (d : Int × Bool) => .leaf (Res.mk (AV.r (RV.c (CV.f (FV.i IntKind.i64 d.fst)))) [Ch.set [Sg.c (CV.f (FV.b d.snd))]] [])
  | none => .fail
theorem d_root_end (g_wide_Root : Int → Int → Option (Int × Bool)) (g___fx_Acc__Sat : Int → Bool → Option (Int × Bool))  (x0 : Int) (x1 : Int) (x2 : Bool) : den Try.prog (envOf [(15, F_wide_Root g_wide_Root), (91, F___fx_Acc__Sat g___fx_Acc__Sat)]) ⟨[], [], [], [], none⟩ 200 98 [.r (.c (.ptr 0 (.k 0) 1)), .r (.agg [.c (.f (.i .i64 x0)), .c (.f (.i .u64 x1))])] [[.c (.f (.b x2))]] =
    K_root_end g_wide_Root g___fx_Acc__Sat  x0 x1 x2 (fun (d : Int × Bool) => some (Res.mk (AV.r (RV.c (CV.f (FV.i IntKind.i64 d.fst)))) [Ch.set [Sg.c (CV.f (FV.b d.snd))]] [])) := by kernel_rfl
theorem m_root_end {ρ σ : Type} (q : ρ → Option σ) (g_wide_Root : Int → Int → Option (Int × Bool)) (g___fx_Acc__Sat : Int → Bool → Option (Int × Bool))   (x0 : Int) (x1 : Int) (x2 : Bool) (k : (Int × Bool) → Option ρ) : (K_root_end g_wide_Root g___fx_Acc__Sat  x0 x1 x2 k).bind q = K_root_end g_wide_Root g___fx_Acc__Sat  x0 x1 x2 (fun d => (k d).bind q) := by
  simp only [K_root_end, bnd_cond, bnd_bind, bnd_none, bnd_sum]
theorem qa_root_end : ∀ b, (QA_root_end).em b = ([.r (.c (.ptr 0 (.k 0) 1)), .r (.agg [.c (.f (.i .i64 b.1.2.1.1)), .c (.f (.i .u64 b.1.2.1.2.1))])], [[.c (.f (.b b.2.1.1))]]) := fun b => by kernel_rfl
theorem e_root_end {f : (Int) → (Int) → (Bool) → Option (Int × Bool)} {args : List AV} {h : List Blk} {r : Res} (hr : (F_root_end f args h).eval = some r) : ∃ x0 x1 x2, args = [.r (.c (.ptr 0 (.k 0) 1)), .r (.agg [.c (.f (.i .i64 x0)), .c (.f (.i .u64 x1))])] ∧ h = [[.c (.f (.b x2))]] ∧ (f x0 x1 x2).bind (fun (d : Int × Bool) => some (Res.mk (AV.r (RV.c (CV.f (FV.i IntKind.i64 d.fst)))) [Ch.set [Sg.c (CV.f (FV.b d.snd))]] [])) = some r := by
  unfold F_root_end at hr
  split at hr
  · rename_i b hb
    have e := ((QA_root_end).ok _ _ hb).trans (qa_root_end b)
    rw [opt_eval2] at hr
    exact ⟨b.1.2.1.1, b.1.2.1.2.1, b.2.1.1, (Prod.mk.inj e).1, (Prod.mk.inj e).2, hr⟩
  · cases hr
theorem n_root_end {σ : Type} (q : (Int × Bool) → Option σ) (x0 : Int) (x1 : Int) (x2 : Bool) : (f_root_end x0 x1 x2).bind q = K_root_end f_wide_Root f___fx_Acc__Sat  x0 x1 x2 q := by
  unfold f_root_end
  exact m_root_end q f_wide_Root f___fx_Acc__Sat   x0 x1 x2 some
theorem s_root_end : Sound Try.prog 98 (F_root_end f_root_end) :=
  (inl_sound (l := [(15, F_wide_Root f_wide_Root), (91, F___fx_Acc__Sat f___fx_Acc__Sat)]) (.cons s_wide_Root (.cons s___fx_Acc__Sat (.nil _))) mixed [] [] 200 (by kernel_rfl)).by (F := F_root_end f_root_end) fun args b r hr => by
  obtain ⟨x0, x1, x2, rfl, rfl, hr1⟩ := e_root_end hr
  exact inl_eval ((d_root_end f_wide_Root f___fx_Acc__Sat  x0 x1 x2).trans ((n_root_end (fun (d : Int × Bool) => some (Res.mk (AV.r (RV.c (CV.f (FV.i IntKind.i64 d.fst)))) [Ch.set [Sg.c (CV.f (FV.b d.snd))]] [])) x0 x1 x2).symm.trans hr1))

def K_root_Sqrt {ρ : Type} (g___fx_Acc__Sat : Int → Bool → Option (Int × Bool)) (g_wide_Shift : Int → Int → Option (Int × Int × Bool)) (g_root_end : Int → Int → Bool → Option (Int × Bool))  (x0 : Int) (x1 : Bool) (k : (Int × Bool) → Option ρ) : Option ρ :=
  Option.bind (g___fx_Acc__Sat x0 x1) fun (d : Int × Bool) =>
    bif decide (d.fst < 0) then k (0, true)
    else Option.bind (g_wide_Shift d.fst 30) fun (d_1 : Int × Int × Bool) => Option.bind (g_root_end d_1.fst d_1.snd.fst d.snd) fun (d : Int × Bool) => k (d.fst, d.snd)
def f_root_Sqrt (x0 : Int) (x1 : Bool) : Option (Int × Bool) := K_root_Sqrt f___fx_Acc__Sat f_wide_Shift f_root_end  x0 x1 some
section
open Go.Ab.Rdr
def QA_root_Sqrt := ((pair (cons (ar (rc (cptr (nat 0) (ok' (nat 0)) (nat 1)))) (cons (ar (rc (cf (fi .i64 hole)))) nil)) (cons (cons (gc (cf (fb hole))) nil) nil)) : Rdr (List AV × List Blk) _)
end
def F_root_Sqrt (f : (Int) → (Bool) → Option (Int × Bool)) : Sem1 := fun args h => match (QA_root_Sqrt).rd (args, h) with
  | some b => .opt (f b.1.2.1 b.2.1.1) fun (d : Int × Bool) => .leaf (Res.mk (AV.r (RV.c (CV.f (FV.i IntKind.i64 d.fst)))) [Ch.set [Sg.c (CV.f (FV.b d.snd))]] [])
  | none => .fail
theorem d_root_Sqrt (g___fx_Acc__Sat : Int → Bool → Option (Int × Bool)) (g_wide_Shift : Int → Int → Option (Int × Int × Bool)) (g_root_end : Int → Int → Bool → Option (Int × Bool))  (x0 : Int) (x1 : Bool) : den Try.prog (envOf [(91, F___fx_Acc__Sat g___fx_Acc__Sat), (31, F_wide_Shift g_wide_Shift), (98, F_root_end g_root_end)]) ⟨[], [], [], [], none⟩ 200 71 [.r (.c (.ptr 0 (.k 0) 1)), .r (.c (.f (.i .i64 x0)))] [[.c (.f (.b x1))]] =
    K_root_Sqrt g___fx_Acc__Sat g_wide_Shift g_root_end  x0 x1 (fun (d : Int × Bool) => some (Res.mk (AV.r (RV.c (CV.f (FV.i IntKind.i64 d.fst)))) [Ch.set [Sg.c (CV.f (FV.b d.snd))]] [])) := by kernel_rfl
theorem m_root_Sqrt {ρ σ : Type} (q : ρ → Option σ) (g___fx_Acc__Sat : Int → Bool → Option (Int × Bool)) (g_wide_Shift : Int → Int → Option (Int × Int × Bool)) (g_root_end : Int → Int → Bool → Option (Int × Bool))   (x0 : Int) (x1 : Bool) (k : (Int × Bool) → Option ρ) : (K_root_Sqrt g___fx_Acc__Sat g_wide_Shift g_root_end  x0 x1 k).bind q = K_root_Sqrt g___fx_Acc__Sat g_wide_Shift g_root_end  x0 x1 (fun d => (k d).bind q) := by
  simp only [K_root_Sqrt, bnd_cond, bnd_bind, bnd_none, bnd_sum]
theorem qa_root_Sqrt : ∀ b, (QA_root_Sqrt).em b = ([.r (.c (.ptr 0 (.k 0) 1)), .r (.c (.f (.i .i64 b.1.2.1)))], [[.c (.f (.b b.2.1.1))]]) := fun b => by kernel_rfl
theorem e_root_Sqrt {f : (Int) → (Bool) → Option (Int × Bool)} {args : List AV} {h : List Blk} {r : Res} (hr : (F_root_Sqrt f args h).eval = some r) : ∃ x0 x1, args = [.r (.c (.ptr 0 (.k 0) 1)), .r (.c (.f (.i .i64 x0)))] ∧ h = [[.c (.f (.b x1))]] ∧ (f x0 x1).bind (fun (d : Int × Bool) => some (Res.mk (AV.r (RV.c (CV.f (FV.i IntKind.i64 d.fst)))) [Ch.set [Sg.c (CV.f (FV.b d.snd))]] [])) = some r := by
  unfold F_root_Sqrt at hr
  split at hr
  · rename_i b hb
    have e := ((QA_root_Sqrt).ok _ _ hb).trans (qa_root_Sqrt b)
    rw [opt_eval2] at hr
    exact ⟨b.1.2.1, b.2.1.1, (Prod.mk.inj e).1, (Prod.mk.inj e).2, hr⟩
  · cases hr
theorem n_root_Sqrt {σ : Type} (q : (Int × Bool) → Option σ) (x0 : Int) (x1 : Bool) : (f_root_Sqrt x0 x1).bind q = K_root_Sqrt f___fx_Acc__Sat f_wide_Shift f_root_end  x0 x1 q := by
  unfold f_root_Sqrt
  exact m_root_Sqrt q f___fx_Acc__Sat f_wide_Shift f_root_end   x0 x1 some
theorem s_root_Sqrt : Sound Try.prog 71 (F_root_Sqrt f_root_Sqrt) :=
  (inl_sound (l := [(91, F___fx_Acc__Sat f___fx_Acc__Sat), (31, F_wide_Shift f_wide_Shift), (98, F_root_end f_root_end)]) (.cons s___fx_Acc__Sat (.cons s_wide_Shift (.cons s_root_end (.nil _)))) mixed [] [] 200 (by kernel_rfl)).by (F := F_root_Sqrt f_root_Sqrt) fun args b r hr => by
  obtain ⟨x0, x1, rfl, rfl, hr1⟩ := e_root_Sqrt hr
  exact inl_eval ((d_root_Sqrt f___fx_Acc__Sat f_wide_Shift f_root_end  x0 x1).trans ((n_root_Sqrt (fun (d : Int × Bool) => some (Res.mk (AV.r (RV.c (CV.f (FV.i IntKind.i64 d.fst)))) [Ch.set [Sg.c (CV.f (FV.b d.snd))]] [])) x0 x1).symm.trans hr1))

def K_trig_Wrap {ρ : Type}   (x0 : Int) (k : (Int) → Option ρ) : Option ρ :=
  bif decide (Int.tmod x0 6746518852 > 3373259426) then k (IntKind.wrap IntKind.i64 (Int.tmod x0 6746518852 - 6746518852))
  else bif decide (Int.tmod x0 6746518852 ≤ -3373259426) then k (IntKind.wrap IntKind.i64 (Int.tmod x0 6746518852 + 6746518852)) else k (Int.tmod x0 6746518852)
def f_trig_Wrap (x0 : Int) : Option (Int) := K_trig_Wrap   x0 some
section
open Go.Ab.Rdr
def QA_trig_Wrap := ((pair (cons (ar (rc (cf (fi .i64 hole)))) nil) nil) : Rdr (List AV × List Blk) _)
end
def F_trig_Wrap (f : (Int) → Option (Int)) : Sem1 := fun args h => match (QA_trig_Wrap).rd (args, h) with
  | some b => .opt (f b.1.1) fun (d : Int) => .leaf (Res.mk (AV.r (RV.c (CV.f (FV.i IntKind.i64 d)))) [] [])
  | none => .fail
theorem d_trig_Wrap   (x0 : Int) : den Try.prog (envOf []) ⟨[], [], [], [], none⟩ 200 94 [.r (.c (.f (.i .i64 x0)))] [] =
    K_trig_Wrap   x0 (fun (d : Int) => some (Res.mk (AV.r (RV.c (CV.f (FV.i IntKind.i64 d)))) [] [])) := by kernel_rfl
theorem m_trig_Wrap {ρ σ : Type} (q : ρ → Option σ)    (x0 : Int) (k : (Int) → Option ρ) : (K_trig_Wrap   x0 k).bind q = K_trig_Wrap   x0 (fun d => (k d).bind q) := by
  simp only [K_trig_Wrap, bnd_cond, bnd_bind, bnd_none, bnd_sum]
theorem qa_trig_Wrap : ∀ b, (QA_trig_Wrap).em b = ([.r (.c (.f (.i .i64 b.1.1)))], []) := fun b => by kernel_rfl
theorem e_trig_Wrap {f : (Int) → Option (Int)} {args : List AV} {h : List Blk} {r : Res} (hr : (F_trig_Wrap f args h).eval = some r) : ∃ x0, args = [.r (.c (.f (.i .i64 x0)))] ∧ h = [] ∧ (f x0).bind (fun (d : Int) => some (Res.mk (AV.r (RV.c (CV.f (FV.i IntKind.i64 d)))) [] [])) = some r := by
  unfold F_trig_Wrap at hr
  split at hr
  · rename_i b hb
    have e := ((QA_trig_Wrap).ok _ _ hb).trans (qa_trig_Wrap b)
    rw [opt_eval2] at hr
    exact ⟨b.1.1, (Prod.mk.inj e).1, (Prod.mk.inj e).2, hr⟩
  · cases hr
theorem n_trig_Wrap {σ : Type} (q : (Int) → Option σ) (x0 : Int) : (f_trig_Wrap x0).bind q = K_trig_Wrap   x0 q := by
  unfold f_trig_Wrap
  exact m_trig_Wrap q    x0 some
theorem s_trig_Wrap : Sound Try.prog 94 (F_trig_Wrap f_trig_Wrap) :=
  (inl_sound (l := []) (.nil _) mixed [] [] 200 (by kernel_rfl)).by (F := F_trig_Wrap f_trig_Wrap) fun args b r hr => by
  obtain ⟨x0, rfl, rfl, hr1⟩ := e_trig_Wrap hr
  exact inl_eval ((d_trig_Wrap   x0).trans ((n_trig_Wrap (fun (d : Int) => some (Res.mk (AV.r (RV.c (CV.f (FV.i IntKind.i64 d)))) [] [])) x0).symm.trans hr1))

def K_trig_m {ρ : Type} (g___fx_Acc__Mul : Int → Int → Int → Bool → Option (Int × Bool))  (x0 : Int) (x1 : Int) (x2 : Bool) (k : (Int × Bool) → Option ρ) : Option ρ :=
  Option.bind (g___fx_Acc__Mul x0 x1 30 x2) fun (d : Int × Bool) => k (d.fst, d.snd)
def f_trig_m (x0 : Int) (x1 : Int) (x2 : Bool) : Option (Int × Bool) := K_trig_m f___fx_Acc__Mul  x0 x1 x2 some
section
open Go.Ab.Rdr
def QA_trig_m := ((pair (cons (ar (rc (cptr (nat 0) (ok' (nat 0)) (nat 1)))) (cons (ar (rc (cf (fi .i64 hole)))) (cons (ar (rc (cf (fi .i64 hole)))) nil))) (cons (cons (gc (cf (fb hole))) nil) nil)) : Rdr (List AV × List Blk) _)
end
def F_trig_m (f : (Int) → (Int) → (Bool) → Option (Int × Bool)) : Sem1 := fun args h => match (QA_trig_m).rd (args, h) with
  | some b => .opt (f b.1.2.1 b.1.2.2.1 b.2.1.1) fun (d : Int × Bool) => .leaf (Res.mk (AV.r (RV.c (CV.f (FV.i IntKind.i64 d.fst)))) [Ch.set [Sg.c (CV.f (FV.b d.snd))]] [])
  | none => .fail
theorem d_trig_m (g___fx_Acc__Mul : Int → Int → Int → Bool → Option (Int × Bool))  (x0 : Int) (x1 : Int) (x2 : Bool) : den Try.prog (envOf [(67, F___fx_Acc__Mul g___fx_Acc__Mul)]) ⟨[], [], [], [], none⟩ 200 96 [.r (.c (.ptr 0 (.k 0) 1)), .r (.c (.f (.i .i64 x0))), .r (.c (.f (.i .i64 x1)))] [[.c (.f (.b x2))]] =
    K_trig_m g___fx_Acc__Mul  x0 x1 x2 (fun (d : Int × Bool) => some (Res.mk (AV.r (RV.c (CV.f (FV.i IntKind.i64 d.fst)))) [Ch.set [Sg.c (CV.f (FV.b d.snd))]] [])) := by kernel_rfl
theorem m_trig_m {ρ σ : Type} (q : ρ → Option σ) (g___fx_Acc__Mul : Int → Int → Int → Bool → Option (Int × Bool))   (x0 : Int) (x1 : Int) (x2 : Bool) (k : (Int × Bool) → Option ρ) : (K_trig_m g___fx_Acc__Mul  x0 x1 x2 k).bind q = K_trig_m g___fx_Acc__Mul  x0 x1 x2 (fun d => (k d).bind q) := by
  simp only [K_trig_m, bnd_cond, bnd_bind, bnd_none, bnd_sum]
theorem qa_trig_m : ∀ b, (QA_trig_m).em b = ([.r (.c (.ptr 0 (.k 0) 1)), .r (.c (.f (.i .i64 b.1.2.1))), .r (.c (.f (.i .i64 b.1.2.2.1)))], [[.c (.f (.b b.2.1.1))]]) := fun b => by kernel_rfl
theorem e_trig_m {f : (Int) → (Int) → (Bool) → Option (Int × Bool)} {args : List AV} {h : List Blk} {r : Res} (hr : (F_trig_m f args h).eval = some r) : ∃ x0 x1 x2, args = [.r (.c (.ptr 0 (.k 0) 1)), .r (.c (.f (.i .i64 x0))), .r (.c (.f (.i .i64 x1)))] ∧ h = [[.c (.f (.b x2))]] ∧ (f x0 x1 x2).bind (fun (d : Int × Bool) => some (Res.mk (AV.r (RV.c (CV.f (FV.i IntKind.i64 d.fst)))) [Ch.set [Sg.c (CV.f (FV.b d.snd))]] [])) = some r := by
  unfold F_trig_m at hr
  split at hr
  · rename_i b hb
    have e := ((QA_trig_m).ok _ _ hb).trans (qa_trig_m b)
    rw [opt_eval2] at hr
    exact ⟨b.1.2.1, b.1.2.2.1, b.2.1.1, (Prod.mk.inj e).1, (Prod.mk.inj e).2, hr⟩
  · cases hr
theorem n_trig_m {σ : Type} (q : (Int × Bool) → Option σ) (x0 : Int) (x1 : Int) (x2 : Bool) : (f_trig_m x0 x1 x2).bind q = K_trig_m f___fx_Acc__Mul  x0 x1 x2 q := by
  unfold f_trig_m
  exact m_trig_m q f___fx_Acc__Mul   x0 x1 x2 some
theorem s_trig_m : Sound Try.prog 96 (F_trig_m f_trig_m) :=
  (inl_sound (l := [(67, F___fx_Acc__Mul f___fx_Acc__Mul)]) (.cons s___fx_Acc__Mul (.nil _)) mixed [] [] 200 (by kernel_rfl)).by (F := F_trig_m f_trig_m) fun args b r hr => by
  obtain ⟨x0, x1, x2, rfl, rfl, hr1⟩ := e_trig_m hr
  exact inl_eval ((d_trig_m f___fx_Acc__Mul  x0 x1 x2).trans ((n_trig_m (fun (d : Int × Bool) => some (Res.mk (AV.r (RV.c (CV.f (FV.i IntKind.i64 d.fst)))) [Ch.set [Sg.c (CV.f (FV.b d.snd))]] [])) x0 x1 x2).symm.trans hr1))

def S_trig_series_0 {ρ : Type} (g_trig_m : Int → Int → Bool → Option (Int × Bool)) (g___fx_Acc__Add : Nat → Bool → (Nat → Int) → Bool → Option (Int × Bool))  (x0 : Int) (x1 : Int) (x2 : Nat) (x3 : Bool) (x4 : Int) (x5 : Int) (x6 : Bool) (x7 : Nat) (x8 : Nat → Int) (c : (Int × Int × Nat × Bool × Int × Int × Bool × Nat × (Nat → Int)) → Option ρ) (x : (Int × Int × Nat × Bool × Int × Int × Bool × Bool × Nat × (Nat → Int)) → Option ρ) : Option ρ :=
  bif decide (x5 < x4) then
    bif inR x5 x2 then
      Option.bind (g_trig_m x0 x1 x6) fun (d : Int × Bool) =>
        Option.bind (g___fx_Acc__Add 2 d.snd (fun (j : Nat) => bif Nat.beq j 1 then d.fst else bif Nat.beq j 0 then x8 (1 + Int.toNat x5) else x8 (1 + Int.toNat x5)) true) fun (d : Int × Bool) =>
          c (x0, d.fst, x2, x3, x4, IntKind.wrap IntKind.i64 (x5 + 1), d.snd, x7, x8)
    else none
  else x (x0, x1, x2, x3, x4, x5, decide (x5 < x4), x6, x7, x8)
section
open Go.Ab.Rdr
def Q_trig_series_0 := (st (cons (ar (rc (cptr (nat 0) (ok' (nat 0)) (nat 1)))) (cons (ar (rc (cf (fi .i64 hole)))) (cons aund (cons aund (cons aund (cons aund (cons aund (cons (ar (rc (cf (fi .i64 hole)))) (cons aund (cons aund (cons aund (cons aund (cons aund (cons aund (cons (ar (rc (csl (nat 1) (ox (nat 0) (nat 1) (nat 1)) (szs hole) (nat 1) hole))) (cons (ar (rc (cf (fi .i64 hole)))) (cons (ar (rc (cf (fi .i64 hole)))) (cons aund (cons aund (cons aund (cons aund (cons aund (cons aund (cons aund (cons aund (cons aund (cons aund (cons aund (cons aund (cons aund nil)))))))))))))))))))))))))))))) (cons (some' (cons (gc (cf (fb hole))) nil)) (cons (some' (cons (ga (szs hole) (cons (ki .i64 hole) nil)) nil)) nil)) (cons (nat 0) nil))
end
theorem q_trig_series_0 : ∀ b, (Q_trig_series_0).em b = St.mk
    [AV.r (RV.c (CV.ptr 0 (Off.k 0) 1)), AV.r (RV.c (CV.f (FV.i IntKind.i64 b.1.2.1))), AV.und, AV.und, AV.und, AV.und, AV.und, AV.r (RV.c (CV.f (FV.i IntKind.i64 b.1.2.2.2.2.2.2.2.1))), AV.und, AV.und, AV.und, AV.und,
      AV.und, AV.und, AV.r (RV.c (CV.sl 1 (Off.x 0 1 1) (Sz.s b.1.2.2.2.2.2.2.2.2.2.2.2.2.2.2.1.2.2.1) 1 b.1.2.2.2.2.2.2.2.2.2.2.2.2.2.2.1.2.2.2.2)), AV.r (RV.c (CV.f (FV.i IntKind.i64 b.1.2.2.2.2.2.2.2.2.2.2.2.2.2.2.2.1))), AV.r (RV.c (CV.f (FV.i IntKind.i64 b.1.2.2.2.2.2.2.2.2.2.2.2.2.2.2.2.2.1))), AV.und, AV.und, AV.und, AV.und, AV.und,
      AV.und, AV.und, AV.und, AV.und, AV.und, AV.und, AV.und, AV.und]
    [some [Sg.c (CV.f (FV.b b.2.1.1.1))], some [Sg.a (Sz.s b.2.1.2.1.1.1) [Col.i IntKind.i64 b.2.1.2.1.1.2.1]]] [0] := fun b => by kernel_rfl
def R_trig_series_0 (l : ∀ {ρ : Type}, (Int × Int × Nat × Bool × Int × Int × Bool × Nat × (Nat → Int)) → ((Int × Int × Nat × Bool × Int × Int × Bool × Bool × Nat × (Nat → Int)) → Option ρ) → Option ρ) {ρ : Type} (s : St) (K : AX → St → Option ρ) : Option ρ := ((Q_trig_series_0).rd s).bind fun b => l (b.1.2.1, b.1.2.2.2.2.2.2.2.1, b.1.2.2.2.2.2.2.2.2.2.2.2.2.2.2.1.2.2.1, b.1.2.2.2.2.2.2.2.2.2.2.2.2.2.2.1.2.2.2.2, b.1.2.2.2.2.2.2.2.2.2.2.2.2.2.2.2.1, b.1.2.2.2.2.2.2.2.2.2.2.2.2.2.2.2.2.1, b.2.1.1.1, b.2.1.2.1.1.1, b.2.1.2.1.1.2.1) (fun d => K (AX.ex 0) (St.mk
  [AV.r (RV.c (CV.ptr 0 (Off.k 0) 1)), AV.r (RV.c (CV.f (FV.i IntKind.i64 d.fst))), AV.und, AV.und, AV.und, AV.und, AV.und, AV.r (RV.c (CV.f (FV.i IntKind.i64 d.snd.fst))), AV.und, AV.und, AV.und,
    AV.und, AV.und, AV.und, AV.r (RV.c (CV.sl 1 (Off.x 0 1 1) (Sz.s d.snd.snd.fst) 1 d.snd.snd.snd.fst)), AV.r (RV.c (CV.f (FV.i IntKind.i64 d.snd.snd.snd.snd.fst))),
    AV.r (RV.c (CV.f (FV.i IntKind.i64 d.snd.snd.snd.snd.snd.fst))), AV.r (RV.c (CV.f (FV.b d.snd.snd.snd.snd.snd.snd.fst))), AV.und, AV.und, AV.und, AV.und, AV.und, AV.und, AV.und, AV.und, AV.und,
    AV.und, AV.und, AV.und]
  [some [Sg.c (CV.f (FV.b d.snd.snd.snd.snd.snd.snd.snd.fst))], some [Sg.a (Sz.s d.snd.snd.snd.snd.snd.snd.snd.snd.fst) [Col.i IntKind.i64 d.snd.snd.snd.snd.snd.snd.snd.snd.snd]]] [0]))
theorem ms_trig_series_0 {ρ σ : Type} (g_trig_m : Int → Int → Bool → Option (Int × Bool)) (g___fx_Acc__Add : Nat → Bool → (Nat → Int) → Bool → Option (Int × Bool))   (q : ρ → Option σ) (x0 : Int) (x1 : Int) (x2 : Nat) (x3 : Bool) (x4 : Int) (x5 : Int) (x6 : Bool) (x7 : Nat) (x8 : Nat → Int) (c : (Int × Int × Nat × Bool × Int × Int × Bool × Nat × (Nat → Int)) → Option ρ) (x : (Int × Int × Nat × Bool × Int × Int × Bool × Bool × Nat × (Nat → Int)) → Option ρ) : (S_trig_series_0 g_trig_m g___fx_Acc__Add  x0 x1 x2 x3 x4 x5 x6 x7 x8 c x).bind q = S_trig_series_0 g_trig_m g___fx_Acc__Add  x0 x1 x2 x3 x4 x5 x6 x7 x8 (fun d => (c d).bind q) (fun d => (x d).bind q) := by
  simp only [S_trig_series_0, bnd_cond, bnd_bind, bnd_none, bnd_sum]
def L_trig_series_0 {ρ : Type} (d : Int × Int × Nat × Bool × Int × Int × Bool × Nat × (Nat → Int)) (k : (Int × Int × Nat × Bool × Int × Int × Bool × Bool × Nat × (Nat → Int)) → Option ρ) : Option ρ := loopK (fun d c x => S_trig_series_0 f_trig_m f___fx_Acc__Add  d.1 d.2.1 d.2.2.1 d.2.2.2.1 d.2.2.2.2.1 d.2.2.2.2.2.1 d.2.2.2.2.2.2.1 d.2.2.2.2.2.2.2.1 d.2.2.2.2.2.2.2.2 c x) 200 d k
theorem mL_trig_series_0 {ρ σ : Type} (q : ρ → Option σ) (d : Int × Int × Nat × Bool × Int × Int × Bool × Nat × (Nat → Int)) (k : (Int × Int × Nat × Bool × Int × Int × Bool × Bool × Nat × (Nat → Int)) → Option ρ) : (L_trig_series_0 d k).bind q = L_trig_series_0 d fun x => (k x).bind q :=
  loopK_bind q (fun d c x => ms_trig_series_0 f_trig_m f___fx_Acc__Add   q d.1 d.2.1 d.2.2.1 d.2.2.2.1 d.2.2.2.2.1 d.2.2.2.2.2.1 d.2.2.2.2.2.2.1 d.2.2.2.2.2.2.2.1 d.2.2.2.2.2.2.2.2 c x) k _ d
theorem ds_trig_series_0 {ρ : Type} (g_trig_m : Int → Int → Bool → Option (Int × Bool)) (g___fx_Acc__Add : Nat → Bool → (Nat → Int) → Bool → Option (Int × Bool)) (l_0 : ∀ {ρ : Type}, (Int × Int × Nat × Bool × Int × Int × Bool × Nat × (Nat → Int)) → ((Int × Int × Nat × Bool × Int × Int × Bool × Bool × Nat × (Nat → Int)) → Option ρ) → Option ρ) (x0 : Int) (x1 : Int) (x2 : Nat) (x3 : Bool) (x4 : Int) (x5 : Int) (x6 : Bool) (x7 : Nat) (x8 : Nat → Int) (c : St → Option ρ) (K : AX → St → Option ρ) :
    runC Try.prog (envOf [(96, F_trig_m g_trig_m), (114, F___fx_Acc__Add g___fx_Acc__Add)]) ⟨[⟨3, [2, 3, 4, 5, 6, 8, 9, 10, 11, 12, 13, 17, 18, 19, 20, 21, 22, 23, 24, 25, 26, 27, 28, 29], []⟩], [⟨3, 2, @R_trig_series_0 (@l_0)⟩], [0], [], none⟩ (tmpsOf Try.prog 97) 2 200 (loopIn Try.prog 97 3)
      (St.mk
    [AV.r (RV.c (CV.ptr 0 (Off.k 0) 1)), AV.r (RV.c (CV.f (FV.i IntKind.i64 x0))), AV.und, AV.und, AV.und, AV.und, AV.und, AV.r (RV.c (CV.f (FV.i IntKind.i64 x1))), AV.und, AV.und, AV.und, AV.und,
      AV.und, AV.und, AV.r (RV.c (CV.sl 1 (Off.x 0 1 1) (Sz.s x2) 1 x3)), AV.r (RV.c (CV.f (FV.i IntKind.i64 x4))), AV.r (RV.c (CV.f (FV.i IntKind.i64 x5))), AV.und, AV.und, AV.und, AV.und, AV.und,
      AV.und, AV.und, AV.und, AV.und, AV.und, AV.und, AV.und, AV.und]
    [some [Sg.c (CV.f (FV.b x6))], some [Sg.a (Sz.s x7) [Col.i IntKind.i64 x8]]] [0])
      (next (fun t => t.head 2 ⟨[⟨3, [2, 3, 4, 5, 6, 8, 9, 10, 11, 12, 13, 17, 18, 19, 20, 21, 22, 23, 24, 25, 26, 27, 28, 29], []⟩], [⟨3, 2, @R_trig_series_0 (@l_0)⟩], [0], [], none⟩ (loopIn Try.prog 97 3)) c K) =
    S_trig_series_0 g_trig_m g___fx_Acc__Add  x0 x1 x2 x3 x4 x5 x6 x7 x8 (fun d => c (St.mk
  [AV.r (RV.c (CV.ptr 0 (Off.k 0) 1)), AV.r (RV.c (CV.f (FV.i IntKind.i64 d.fst))), AV.und, AV.und, AV.und, AV.und, AV.und, AV.r (RV.c (CV.f (FV.i IntKind.i64 d.snd.fst))), AV.und, AV.und, AV.und,
    AV.und, AV.und, AV.und, AV.r (RV.c (CV.sl 1 (Off.x 0 1 1) (Sz.s d.snd.snd.fst) 1 d.snd.snd.snd.fst)), AV.r (RV.c (CV.f (FV.i IntKind.i64 d.snd.snd.snd.snd.fst))),
    AV.r (RV.c (CV.f (FV.i IntKind.i64 d.snd.snd.snd.snd.snd.fst))), AV.und, AV.und, AV.und, AV.und, AV.und, AV.und, AV.und, AV.und, AV.und, AV.und, AV.und, AV.und, AV.und]
  [some [Sg.c (CV.f (FV.b d.snd.snd.snd.snd.snd.snd.fst))], some [Sg.a (Sz.s d.snd.snd.snd.snd.snd.snd.snd.fst) [Col.i IntKind.i64 d.snd.snd.snd.snd.snd.snd.snd.snd]]] [0])) (fun d => K (AX.ex 0) (St.mk
  [AV.r (RV.c (CV.ptr 0 (Off.k 0) 1)), AV.r (RV.c (CV.f (FV.i IntKind.i64 d.fst))), AV.und, AV.und, AV.und, AV.und, AV.und, AV.r (RV.c (CV.f (FV.i IntKind.i64 d.snd.fst))), AV.und, AV.und, AV.und,
    AV.und, AV.und, AV.und, AV.r (RV.c (CV.sl 1 (Off.x 0 1 1) (Sz.s d.snd.snd.fst) 1 d.snd.snd.snd.fst)), AV.r (RV.c (CV.f (FV.i IntKind.i64 d.snd.snd.snd.snd.fst))),
    AV.r (RV.c (CV.f (FV.i IntKind.i64 d.snd.snd.snd.snd.snd.fst))), AV.r (RV.c (CV.f (FV.b d.snd.snd.snd.snd.snd.snd.fst))), AV.und, AV.und, AV.und, AV.und, AV.und, AV.und, AV.und, AV.und, AV.und,
    AV.und, AV.und, AV.und]
  [some [Sg.c (CV.f (FV.b d.snd.snd.snd.snd.snd.snd.snd.fst))], some [Sg.a (Sz.s d.snd.snd.snd.snd.snd.snd.snd.snd.fst) [Col.i IntKind.i64 d.snd.snd.snd.snd.snd.snd.snd.snd.snd]]] [0])) := by kernel_rfl
theorem it_trig_series_0 {ρ : Type} (x0 : Int) (x1 : Int) (x2 : Nat) (x3 : Bool) (x4 : Int) (x5 : Int) (x6 : Bool) (x7 : Nat) (x8 : Nat → Int) (K : AX → St → Option ρ) :
    iter (fun t => t.head 2 ⟨[⟨3, [2, 3, 4, 5, 6, 8, 9, 10, 11, 12, 13, 17, 18, 19, 20, 21, 22, 23, 24, 25, 26, 27, 28, 29], []⟩], [⟨3, 2, @R_trig_series_0 (@L_trig_series_0)⟩], [0], [], none⟩ (loopIn Try.prog 97 3)) (runC Try.prog (envOf [(96, F_trig_m f_trig_m), (114, F___fx_Acc__Add f___fx_Acc__Add)]) ⟨[⟨3, [2, 3, 4, 5, 6, 8, 9, 10, 11, 12, 13, 17, 18, 19, 20, 21, 22, 23, 24, 25, 26, 27, 28, 29], []⟩], [⟨3, 2, @R_trig_series_0 (@L_trig_series_0)⟩], [0], [], none⟩ (tmpsOf Try.prog 97) 2 200 (loopIn Try.prog 97 3)) K 200
      (St.mk
    [AV.r (RV.c (CV.ptr 0 (Off.k 0) 1)), AV.r (RV.c (CV.f (FV.i IntKind.i64 x0))), AV.und, AV.und, AV.und, AV.und, AV.und, AV.r (RV.c (CV.f (FV.i IntKind.i64 x1))), AV.und, AV.und, AV.und, AV.und,
      AV.und, AV.und, AV.r (RV.c (CV.sl 1 (Off.x 0 1 1) (Sz.s x2) 1 x3)), AV.r (RV.c (CV.f (FV.i IntKind.i64 x4))), AV.r (RV.c (CV.f (FV.i IntKind.i64 x5))), AV.und, AV.und, AV.und, AV.und, AV.und,
      AV.und, AV.und, AV.und, AV.und, AV.und, AV.und, AV.und, AV.und]
    [some [Sg.c (CV.f (FV.b x6))], some [Sg.a (Sz.s x7) [Col.i IntKind.i64 x8]]] [0]) = L_trig_series_0 (x0, x1, x2, x3, x4, x5, x6, x7, x8) (fun d => K (AX.ex 0) (St.mk
  [AV.r (RV.c (CV.ptr 0 (Off.k 0) 1)), AV.r (RV.c (CV.f (FV.i IntKind.i64 d.fst))), AV.und, AV.und, AV.und, AV.und, AV.und, AV.r (RV.c (CV.f (FV.i IntKind.i64 d.snd.fst))), AV.und, AV.und, AV.und,
    AV.und, AV.und, AV.und, AV.r (RV.c (CV.sl 1 (Off.x 0 1 1) (Sz.s d.snd.snd.fst) 1 d.snd.snd.snd.fst)), AV.r (RV.c (CV.f (FV.i IntKind.i64 d.snd.snd.snd.snd.fst))),
    AV.r (RV.c (CV.f (FV.i IntKind.i64 d.snd.snd.snd.snd.snd.fst))), AV.r (RV.c (CV.f (FV.b d.snd.snd.snd.snd.snd.snd.fst))), AV.und, AV.und, AV.und, AV.und, AV.und, AV.und, AV.und, AV.und, AV.und,
    AV.und, AV.und, AV.und]
  [some [Sg.c (CV.f (FV.b d.snd.snd.snd.snd.snd.snd.snd.fst))], some [Sg.a (Sz.s d.snd.snd.snd.snd.snd.snd.snd.snd.fst) [Col.i IntKind.i64 d.snd.snd.snd.snd.snd.snd.snd.snd.snd]]] [0])) :=
  iter_loopX (emb := fun (d : Int × Int × Nat × Bool × Int × Int × Bool × Nat × (Nat → Int)) => St.mk
  [AV.r (RV.c (CV.ptr 0 (Off.k 0) 1)), AV.r (RV.c (CV.f (FV.i IntKind.i64 d.fst))), AV.und, AV.und, AV.und, AV.und, AV.und, AV.r (RV.c (CV.f (FV.i IntKind.i64 d.snd.fst))), AV.und, AV.und, AV.und,
    AV.und, AV.und, AV.und, AV.r (RV.c (CV.sl 1 (Off.x 0 1 1) (Sz.s d.snd.snd.fst) 1 d.snd.snd.snd.fst)), AV.r (RV.c (CV.f (FV.i IntKind.i64 d.snd.snd.snd.snd.fst))),
    AV.r (RV.c (CV.f (FV.i IntKind.i64 d.snd.snd.snd.snd.snd.fst))), AV.und, AV.und, AV.und, AV.und, AV.und, AV.und, AV.und, AV.und, AV.und, AV.und, AV.und, AV.und, AV.und]
  [some [Sg.c (CV.f (FV.b d.snd.snd.snd.snd.snd.snd.fst))], some [Sg.a (Sz.s d.snd.snd.snd.snd.snd.snd.snd.fst) [Col.i IntKind.i64 d.snd.snd.snd.snd.snd.snd.snd.snd]]] [0]) (step := fun d c x => S_trig_series_0 f_trig_m f___fx_Acc__Add  d.1 d.2.1 d.2.2.1 d.2.2.2.1 d.2.2.2.2.1 d.2.2.2.2.2.1 d.2.2.2.2.2.2.1 d.2.2.2.2.2.2.2.1 d.2.2.2.2.2.2.2.2 c x) (kx := (fun d => K (AX.ex 0) (St.mk
  [AV.r (RV.c (CV.ptr 0 (Off.k 0) 1)), AV.r (RV.c (CV.f (FV.i IntKind.i64 d.fst))), AV.und, AV.und, AV.und, AV.und, AV.und, AV.r (RV.c (CV.f (FV.i IntKind.i64 d.snd.fst))), AV.und, AV.und, AV.und,
    AV.und, AV.und, AV.und, AV.r (RV.c (CV.sl 1 (Off.x 0 1 1) (Sz.s d.snd.snd.fst) 1 d.snd.snd.snd.fst)), AV.r (RV.c (CV.f (FV.i IntKind.i64 d.snd.snd.snd.snd.fst))),
    AV.r (RV.c (CV.f (FV.i IntKind.i64 d.snd.snd.snd.snd.snd.fst))), AV.r (RV.c (CV.f (FV.b d.snd.snd.snd.snd.snd.snd.fst))), AV.und, AV.und, AV.und, AV.und, AV.und, AV.und, AV.und, AV.und, AV.und,
    AV.und, AV.und, AV.und]
  [some [Sg.c (CV.f (FV.b d.snd.snd.snd.snd.snd.snd.snd.fst))], some [Sg.a (Sz.s d.snd.snd.snd.snd.snd.snd.snd.snd.fst) [Col.i IntKind.i64 d.snd.snd.snd.snd.snd.snd.snd.snd.snd]]] [0])))
    (fun d c => ds_trig_series_0 f_trig_m f___fx_Acc__Add (@L_trig_series_0) d.1 d.2.1 d.2.2.1 d.2.2.2.1 d.2.2.2.2.1 d.2.2.2.2.2.1 d.2.2.2.2.2.2.1 d.2.2.2.2.2.2.2.1 d.2.2.2.2.2.2.2.2 c K) 200 (x0, x1, x2, x3, x4, x5, x6, x7, x8)
theorem so_trig_series_0 : ∀ kk, SumOK Try.prog (envOf [(96, F_trig_m f_trig_m), (114, F___fx_Acc__Add f___fx_Acc__Add)]) ⟨[⟨3, [2, 3, 4, 5, 6, 8, 9, 10, 11, 12, 13, 17, 18, 19, 20, 21, 22, 23, 24, 25, 26, 27, 28, 29], []⟩], [⟨3, 2, @R_trig_series_0 (@L_trig_series_0)⟩], [0], [], none⟩ (tmpsOf Try.prog 97) kk 200 (loopIn Try.prog 97 3) :=
  SumOK.of (id := 3) (k0 := 2) (run := @R_trig_series_0 (@L_trig_series_0)) (by kernel_rfl) fun s K r hr => by
    unfold R_trig_series_0 at hr
    obtain ⟨b, hb, hr1⟩ := Option.bind_eq_some_iff.1 hr
    have e := ((Q_trig_series_0).ok s b hb).trans (q_trig_series_0 b)
    subst e
    exact ⟨200, (it_trig_series_0 b.1.2.1 b.1.2.2.2.2.2.2.2.1 b.1.2.2.2.2.2.2.2.2.2.2.2.2.2.2.1.2.2.1 b.1.2.2.2.2.2.2.2.2.2.2.2.2.2.2.1.2.2.2.2 b.1.2.2.2.2.2.2.2.2.2.2.2.2.2.2.2.1 b.1.2.2.2.2.2.2.2.2.2.2.2.2.2.2.2.2.1 b.2.1.1.1 b.2.1.2.1.1.1 b.2.1.2.1.1.2.1 K).trans hr1⟩
def K_trig_series {ρ : Type} (g_trig_m : Int → Int → Bool → Option (Int × Bool)) (g___fx_Acc__Add : Nat → Bool → (Nat → Int) → Bool → Option (Int × Bool)) (l_0 : ∀ {ρ : Type}, (Int × Int × Nat × Bool × Int × Int × Bool × Nat × (Nat → Int)) → ((Int × Int × Nat × Bool × Int × Int × Bool × Bool × Nat × (Nat → Int)) → Option ρ) → Option ρ) (x0 : Int) (x1 : Nat) (x2 : Bool) (x3 : Nat → Int) (w0 : Bool) (k : (Int × Bool) → Option ρ) : Option ρ :=
  bif inR 0 x1 then
    bif inRe 1 x1 then
      l_0 (x0, x3 0, x1 - 1, w0 && true, Int.ofNat (x1 - 1), 0, x2, x1, x3) fun (d : Int × Int × Nat × Bool × Int × Int × Bool × Bool × Nat × (Nat → Int)) =>
        k (d.snd.fst, d.snd.snd.snd.snd.snd.snd.snd.fst)
    else none
  else none
def f_trig_series (x0 : Int) (x1 : Nat) (x2 : Bool) (x3 : Nat → Int) (w0 : Bool) : Option (Int × Bool) := K_trig_series f_trig_m f___fx_Acc__Add (@L_trig_series_0) x0 x1 x2 x3 w0 some
section
open Go.Ab.Rdr
def QA_trig_series := ((pair (cons (ar (rc (cptr (nat 0) (ok' (nat 0)) (nat 1)))) (cons (ar (rc (cf (fi .i64 hole)))) (cons (ar (rc (csl (nat 1) (ok' (nat 0)) (szs hole) (nat 1) hole))) nil))) (cons (cons (gc (cf (fb hole))) nil) (cons (cons (ga (szs hole) (cons (ki .i64 hole) nil)) nil) nil))) : Rdr (List AV × List Blk) _)
end
def F0_trig_series (f : (Int) → (Nat) → (Bool) → (Nat → Int) → (Bool) → Option (Int × Bool)) : Sem1 := fun args h => match (QA_trig_series).rd (args, h) with
  | some b => .test (Nat.beq b.2.2.1.1.1 b.1.2.2.1.2.2.1) (.opt (f b.1.2.1 b.1.2.2.1.2.2.1 b.2.1.1 b.2.2.1.1.2.1 b.1.2.2.1.2.2.2.2) fun (d : Int × Bool) => .leaf (Res.mk (AV.r (RV.c (CV.f (FV.i IntKind.i64 d.fst)))) [Ch.set [Sg.c (CV.f (FV.b d.snd))], Ch.keep] [])) .fail
  | none => .fail
def F_trig_series (f : (Int) → (Nat) → (Bool) → (Nat → Int) → (Bool) → Option (Int × Bool)) : Sem1 := (nilF 2 [.i .i64] (F0_trig_series f))
theorem d_trig_series (g_trig_m : Int → Int → Bool → Option (Int × Bool)) (g___fx_Acc__Add : Nat → Bool → (Nat → Int) → Bool → Option (Int × Bool)) (l_0 : ∀ {ρ : Type}, (Int × Int × Nat × Bool × Int × Int × Bool × Nat × (Nat → Int)) → ((Int × Int × Nat × Bool × Int × Int × Bool × Bool × Nat × (Nat → Int)) → Option ρ) → Option ρ) (x0 : Int) (x1 : Nat) (x2 : Bool) (x3 : Nat → Int) (w0 : Bool) : den Try.prog (envOf [(96, F_trig_m g_trig_m), (114, F___fx_Acc__Add g___fx_Acc__Add)]) ⟨[⟨3, [2, 3, 4, 5, 6, 8, 9, 10, 11, 12, 13, 17, 18, 19, 20, 21, 22, 23, 24, 25, 26, 27, 28, 29], []⟩], [⟨3, 2, @R_trig_series_0 (@l_0)⟩], [0], [], none⟩ 200 97 [.r (.c (.ptr 0 (.k 0) 1)), .r (.c (.f (.i .i64 x0))), .r (.c (.sl 1 (.k 0) (.s x1) 1 w0))] [[.c (.f (.b x2))], [.a (.s x1) [.i .i64 x3]]] =
    K_trig_series g_trig_m g___fx_Acc__Add (@l_0) x0 x1 x2 x3 w0 (fun (d : Int × Bool) => some (Res.mk (AV.r (RV.c (CV.f (FV.i IntKind.i64 d.fst)))) [Ch.set [Sg.c (CV.f (FV.b d.snd))], Ch.keep] [])) := by kernel_rfl
theorem m_trig_series {ρ σ : Type} (q : ρ → Option σ) (g_trig_m : Int → Int → Bool → Option (Int × Bool)) (g___fx_Acc__Add : Nat → Bool → (Nat → Int) → Bool → Option (Int × Bool)) (l_0 : ∀ {ρ : Type}, (Int × Int × Nat × Bool × Int × Int × Bool × Nat × (Nat → Int)) → ((Int × Int × Nat × Bool × Int × Int × Bool × Bool × Nat × (Nat → Int)) → Option ρ) → Option ρ) (hl_0 : ∀ {ρ σ : Type} (q : ρ → Option σ) (d : Int × Int × Nat × Bool × Int × Int × Bool × Nat × (Nat → Int)) (k : (Int × Int × Nat × Bool × Int × Int × Bool × Bool × Nat × (Nat → Int)) → Option ρ), (l_0 d k).bind q = l_0 d fun x => (k x).bind q) (x0 : Int) (x1 : Nat) (x2 : Bool) (x3 : Nat → Int) (w0 : Bool) (k : (Int × Bool) → Option ρ) : (K_trig_series g_trig_m g___fx_Acc__Add (@l_0) x0 x1 x2 x3 w0 k).bind q = K_trig_series g_trig_m g___fx_Acc__Add (@l_0) x0 x1 x2 x3 w0 (fun d => (k d).bind q) := by
  simp only [K_trig_series, bnd_cond, bnd_bind, bnd_none, bnd_sum, hl_0]
theorem qa_trig_series : ∀ b, (QA_trig_series).em b = ([.r (.c (.ptr 0 (.k 0) 1)), .r (.c (.f (.i .i64 b.1.2.1))), .r (.c (.sl 1 (.k 0) (.s b.1.2.2.1.2.2.1) 1 b.1.2.2.1.2.2.2.2))], [[.c (.f (.b b.2.1.1))], [.a (.s b.2.2.1.1.1) [.i .i64 b.2.2.1.1.2.1]]]) := fun b => by kernel_rfl
theorem e_trig_series {f : (Int) → (Nat) → (Bool) → (Nat → Int) → (Bool) → Option (Int × Bool)} {args : List AV} {h : List Blk} {r : Res} (hr : (F0_trig_series f args h).eval = some r) : ∃ x0 x1 x2 x3 w0, args = [.r (.c (.ptr 0 (.k 0) 1)), .r (.c (.f (.i .i64 x0))), .r (.c (.sl 1 (.k 0) (.s x1) 1 w0))] ∧ h = [[.c (.f (.b x2))], [.a (.s x1) [.i .i64 x3]]] ∧ (f x0 x1 x2 x3 w0).bind (fun (d : Int × Bool) => some (Res.mk (AV.r (RV.c (CV.f (FV.i IntKind.i64 d.fst)))) [Ch.set [Sg.c (CV.f (FV.b d.snd))], Ch.keep] [])) = some r := by
  unfold F0_trig_series at hr
  split at hr
  · rename_i b hb
    have e := ((QA_trig_series).ok _ _ hb).trans (qa_trig_series b)
    obtain ⟨he, hr1⟩ := test_eval hr
    clear hr
    have hr := hr1
    clear hr1
    rw [Nat.eq_of_beq_eq_true he] at e
    clear he
    rw [opt_eval2] at hr
    exact ⟨b.1.2.1, b.1.2.2.1.2.2.1, b.2.1.1, b.2.2.1.1.2.1, b.1.2.2.1.2.2.2.2, (Prod.mk.inj e).1, (Prod.mk.inj e).2, hr⟩
  · cases hr
theorem n_trig_series {σ : Type} (q : (Int × Bool) → Option σ) (x0 : Int) (x1 : Nat) (x2 : Bool) (x3 : Nat → Int) (w0 : Bool) : (f_trig_series x0 x1 x2 x3 w0).bind q = K_trig_series f_trig_m f___fx_Acc__Add (@L_trig_series_0) x0 x1 x2 x3 w0 q := by
  unfold f_trig_series
  exact m_trig_series q f_trig_m f___fx_Acc__Add (@L_trig_series_0) (fun q d k => mL_trig_series_0 q d k) x0 x1 x2 x3 w0 some
theorem s_trig_series : Sound Try.prog 97 (F_trig_series f_trig_series) :=
  Sound.nil 2 [.i .i64] <| (inl_sums (l := [(96, F_trig_m f_trig_m), (114, F___fx_Acc__Add f___fx_Acc__Add)]) (.cons s_trig_m (.cons s___fx_Acc__Add (.nil _))) mixed (hs := ⟨[⟨3, [2, 3, 4, 5, 6, 8, 9, 10, 11, 12, 13, 17, 18, 19, 20, 21, 22, 23, 24, 25, 26, 27, 28, 29], []⟩], [⟨3, 2, @R_trig_series_0 (@L_trig_series_0)⟩], [0], [], none⟩) (lf := 200) (Sums.by (l := [loopIn Try.prog 97 3]) (lj := []) (by kernel_rfl) ⟨so_trig_series_0, trivial⟩ (by kernel_rfl) trivial) (by kernel_rfl)).by (F := F0_trig_series f_trig_series) fun args b r hr => by
  obtain ⟨x0, x1, x2, x3, w0, rfl, rfl, hr1⟩ := e_trig_series hr
  exact inl_eval ((d_trig_series f_trig_m f___fx_Acc__Add (@L_trig_series_0) x0 x1 x2 x3 w0).trans ((n_trig_series (fun (d : Int × Bool) => some (Res.mk (AV.r (RV.c (CV.f (FV.i IntKind.i64 d.fst)))) [Ch.set [Sg.c (CV.f (FV.b d.snd))], Ch.keep] [])) x0 x1 x2 x3 w0).symm.trans hr1))

def K_trig_Sin {ρ : Type} (g___fx_Acc__Sat : Int → Bool → Option (Int × Bool)) (g_trig_Wrap : Int → Option Int) (g_fx_Abs : Int → Option Int) (g_trig_m : Int → Int → Bool → Option (Int × Bool)) (g_trig_series : Int → Nat → Bool → (Nat → Int) → Bool → Option (Int × Bool))  (x0 : Int) (x1 : Bool) (k : (Int × Bool) → Option ρ) : Option ρ :=
  Option.bind (g___fx_Acc__Sat x0 x1) fun (d : Int × Bool) =>
    Option.bind (g_trig_Wrap d.fst) fun (d_1 : Int) =>
      bif decide (d_1 > 1686629713) then
        Option.bind (g_fx_Abs (IntKind.wrap IntKind.i64 (3373259426 - d_1))) fun (d_2 : Int) =>
          bif decide (d_2 ≤ 843314857) then
            Option.bind (g_trig_m (IntKind.wrap IntKind.i64 (3373259426 - d_1)) (IntKind.wrap IntKind.i64 (3373259426 - d_1)) d.snd) fun (d : Int × Bool) =>
              Option.bind
                (g_trig_series d.fst 6 d.snd
                  (fun (j : Nat) =>
                    bif Nat.beq j 5 then 1073741824
                    else bif Nat.beq j 4 then -178956971 else bif Nat.beq j 3 then 8947849 else bif Nat.beq j 2 then -213044 else bif Nat.beq j 1 then 2959 else bif Nat.beq j 0 then -27 else -27)
                  true)
                fun (d : Int × Bool) =>
                Option.bind (g_trig_m (IntKind.wrap IntKind.i64 (3373259426 - d_1)) d.fst d.snd) fun (d : Int × Bool) =>
                  k (if 1073741824 < if -1073741824 > d.fst then -1073741824 else d.fst then 1073741824 else if -1073741824 > d.fst then -1073741824 else d.fst, d.snd)
          else
            Option.bind (g_trig_m (IntKind.wrap IntKind.i64 (1686629713 - d_2)) (IntKind.wrap IntKind.i64 (1686629713 - d_2)) d.snd) fun (d : Int × Bool) =>
              Option.bind
                (g_trig_series d.fst 7 d.snd
                  (fun (j : Nat) =>
                    bif Nat.beq j 6 then 1073741824
                    else
                      bif Nat.beq j 5 then -536870912
                      else bif Nat.beq j 4 then 44739243 else bif Nat.beq j 3 then -1491308 else bif Nat.beq j 2 then 26631 else bif Nat.beq j 1 then -296 else bif Nat.beq j 0 then 2 else 2)
                  true)
                fun (d : Int × Bool) =>
                bif decide (IntKind.wrap IntKind.i64 (3373259426 - d_1) < 0) then
                  k
                    (if 1073741824 < if -1073741824 > IntKind.wrap IntKind.i64 (0 - d.fst) then -1073741824 else IntKind.wrap IntKind.i64 (0 - d.fst) then 1073741824
                      else if -1073741824 > IntKind.wrap IntKind.i64 (0 - d.fst) then -1073741824 else IntKind.wrap IntKind.i64 (0 - d.fst),
                      d.snd)
                else k (if 1073741824 < if -1073741824 > d.fst then -1073741824 else d.fst then 1073741824 else if -1073741824 > d.fst then -1073741824 else d.fst, d.snd)
      else
        bif decide (d_1 < -1686629713) then
          Option.bind (g_fx_Abs (IntKind.wrap IntKind.i64 (-3373259426 - d_1))) fun (d_2 : Int) =>
            bif decide (d_2 ≤ 843314857) then
              Option.bind (g_trig_m (IntKind.wrap IntKind.i64 (-3373259426 - d_1)) (IntKind.wrap IntKind.i64 (-3373259426 - d_1)) d.snd) fun (d : Int × Bool) =>
                Option.bind
                  (g_trig_series d.fst 6 d.snd
                    (fun (j : Nat) =>
                      bif Nat.beq j 5 then 1073741824
                      else bif Nat.beq j 4 then -178956971 else bif Nat.beq j 3 then 8947849 else bif Nat.beq j 2 then -213044 else bif Nat.beq j 1 then 2959 else bif Nat.beq j 0 then -27 else -27)
                    true)
                  fun (d : Int × Bool) =>
                  Option.bind (g_trig_m (IntKind.wrap IntKind.i64 (-3373259426 - d_1)) d.fst d.snd) fun (d : Int × Bool) =>
                    k (if 1073741824 < if -1073741824 > d.fst then -1073741824 else d.fst then 1073741824 else if -1073741824 > d.fst then -1073741824 else d.fst, d.snd)
            else
              Option.bind (g_trig_m (IntKind.wrap IntKind.i64 (1686629713 - d_2)) (IntKind.wrap IntKind.i64 (1686629713 - d_2)) d.snd) fun (d : Int × Bool) =>
                Option.bind
                  (g_trig_series d.fst 7 d.snd
                    (fun (j : Nat) =>
                      bif Nat.beq j 6 then 1073741824
                      else
                        bif Nat.beq j 5 then -536870912
                        else bif Nat.beq j 4 then 44739243 else bif Nat.beq j 3 then -1491308 else bif Nat.beq j 2 then 26631 else bif Nat.beq j 1 then -296 else bif Nat.beq j 0 then 2 else 2)
                    true)
                  fun (d : Int × Bool) =>
                  bif decide (IntKind.wrap IntKind.i64 (-3373259426 - d_1) < 0) then
                    k
                      (if 1073741824 < if -1073741824 > IntKind.wrap IntKind.i64 (0 - d.fst) then -1073741824 else IntKind.wrap IntKind.i64 (0 - d.fst) then 1073741824
                        else if -1073741824 > IntKind.wrap IntKind.i64 (0 - d.fst) then -1073741824 else IntKind.wrap IntKind.i64 (0 - d.fst),
                        d.snd)
                  else k (if 1073741824 < if -1073741824 > d.fst then -1073741824 else d.fst then 1073741824 else if -1073741824 > d.fst then -1073741824 else d.fst, d.snd)
        else
          Option.bind (g_fx_Abs d_1) fun (d_2 : Int) =>
            bif decide (d_2 ≤ 843314857) then
              Option.bind (g_trig_m d_1 d_1 d.snd) fun (d : Int × Bool) =>
                Option.bind
                  (g_trig_series d.fst 6 d.snd
                    (fun (j : Nat) =>
                      bif Nat.beq j 5 then 1073741824
                      else bif Nat.beq j 4 then -178956971 else bif Nat.beq j 3 then 8947849 else bif Nat.beq j 2 then -213044 else bif Nat.beq j 1 then 2959 else bif Nat.beq j 0 then -27 else -27)
                    true)
                  fun (d : Int × Bool) =>
                  Option.bind (g_trig_m d_1 d.fst d.snd) fun (d : Int × Bool) =>
                    k (if 1073741824 < if -1073741824 > d.fst then -1073741824 else d.fst then 1073741824 else if -1073741824 > d.fst then -1073741824 else d.fst, d.snd)
            else
              Option.bind (g_trig_m (IntKind.wrap IntKind.i64 (1686629713 - d_2)) (IntKind.wrap IntKind.i64 (1686629713 - d_2)) d.snd) fun (d : Int × Bool) =>
                Option.bind
                  (g_trig_series d.fst 7 d.snd
                    (fun (j : Nat) =>
                      bif Nat.beq j 6 then 1073741824
                      else
                        bif Nat.beq j 5 then -536870912
                        else bif Nat.beq j 4 then 44739243 else bif Nat.beq j 3 then -1491308 else bif Nat.beq j 2 then 26631 else bif Nat.beq j 1 then -296 else bif Nat.beq j 0 then 2 else 2)
                    true)
                  fun (d : Int × Bool) =>
                  bif decide (d_1 < 0) then
                    k
                      (if 1073741824 < if -1073741824 > IntKind.wrap IntKind.i64 (0 - d.fst) then -1073741824 else IntKind.wrap IntKind.i64 (0 - d.fst) then 1073741824
                        else if -1073741824 > IntKind.wrap IntKind.i64 (0 - d.fst) then -1073741824 else IntKind.wrap IntKind.i64 (0 - d.fst),
                        d.snd)
                  else k (if 1073741824 < if -1073741824 > d.fst then -1073741824 else d.fst then 1073741824 else if -1073741824 > d.fst then -1073741824 else d.fst, d.snd)
def f_trig_Sin (x0 : Int) (x1 : Bool) : Option (Int × Bool) := K_trig_Sin f___fx_Acc__Sat f_trig_Wrap f_fx_Abs f_trig_m f_trig_series  x0 x1 some
section
open Go.Ab.Rdr
def QA_trig_Sin := ((pair (cons (ar (rc (cptr (nat 0) (ok' (nat 0)) (nat 1)))) (cons (ar (rc (cf (fi .i64 hole)))) nil)) (cons (cons (gc (cf (fb hole))) nil) nil)) : Rdr (List AV × List Blk) _)
end
def F_trig_Sin (f : (Int) → (Bool) → Option (Int × Bool)) : Sem1 := fun args h => match (QA_trig_Sin).rd (args, h) with
  | some b => .opt (f b.1.2.1 b.2.1.1) fun (d : Int × Bool) => .leaf (Res.mk (AV.r (RV.c (CV.f (FV.i IntKind.i64 d.fst)))) [Ch.set [Sg.c (CV.f (FV.b d.snd))]] [])
  | none => .fail
theorem d_trig_Sin (g___fx_Acc__Sat : Int → Bool → Option (Int × Bool)) (g_trig_Wrap : Int → Option Int) (g_fx_Abs : Int → Option Int) (g_trig_m : Int → Int → Bool → Option (Int × Bool)) (g_trig_series : Int → Nat → Bool → (Nat → Int) → Bool → Option (Int × Bool))  (x0 : Int) (x1 : Bool) : den Try.prog (envOf [(91, F___fx_Acc__Sat g___fx_Acc__Sat), (94, F_trig_Wrap g_trig_Wrap), (95, F_fx_Abs g_fx_Abs), (96, F_trig_m g_trig_m), (97, F_trig_series g_trig_series)]) ⟨[], [], [], [], none⟩ 200 69 [.r (.c (.ptr 0 (.k 0) 1)), .r (.c (.f (.i .i64 x0)))] [[.c (.f (.b x1))]] =
    K_trig_Sin g___fx_Acc__Sat g_trig_Wrap g_fx_Abs g_trig_m g_trig_series  x0 x1 (fun (d : Int × Bool) => some (Res.mk (AV.r (RV.c (CV.f (FV.i IntKind.i64 d.fst)))) [Ch.set [Sg.c (CV.f (FV.b d.snd))]] [])) := by kernel_rfl
theorem m_trig_Sin {ρ σ : Type} (q : ρ → Option σ) (g___fx_Acc__Sat : Int → Bool → Option (Int × Bool)) (g_trig_Wrap : Int → Option Int) (g_fx_Abs : Int → Option Int) (g_trig_m : Int → Int → Bool → Option (Int × Bool)) (g_trig_series : Int → Nat → Bool → (Nat → Int) → Bool → Option (Int × Bool))   (x0 : Int) (x1 : Bool) (k : (Int × Bool) → Option ρ) : (K_trig_Sin g___fx_Acc__Sat g_trig_Wrap g_fx_Abs g_trig_m g_trig_series  x0 x1 k).bind q = K_trig_Sin g___fx_Acc__Sat g_trig_Wrap g_fx_Abs g_trig_m g_trig_series  x0 x1 (fun d => (k d).bind q) := by
  simp only [K_trig_Sin, bnd_cond, bnd_bind, bnd_none, bnd_sum]
theorem qa_trig_Sin : ∀ b, (QA_trig_Sin).em b = ([.r (.c (.ptr 0 (.k 0) 1)), .r (.c (.f (.i .i64 b.1.2.1)))], [[.c (.f (.b b.2.1.1))]]) := fun b => by kernel_rfl
theorem e_trig_Sin {f : (Int) → (Bool) → Option (Int × Bool)} {args : List AV} {h : List Blk} {r : Res} (hr : (F_trig_Sin f args h).eval = some r) : ∃ x0 x1, args = [.r (.c (.ptr 0 (.k 0) 1)), .r (.c (.f (.i .i64 x0)))] ∧ h = [[.c (.f (.b x1))]] ∧ (f x0 x1).bind (fun (d : Int × Bool) => some (Res.mk (AV.r (RV.c (CV.f (FV.i IntKind.i64 d.fst)))) [Ch.set [Sg.c (CV.f (FV.b d.snd))]] [])) = some r := by
  unfold F_trig_Sin at hr
  split at hr
  · rename_i b hb
    have e := ((QA_trig_Sin).ok _ _ hb).trans (qa_trig_Sin b)
    rw [opt_eval2] at hr
    exact ⟨b.1.2.1, b.2.1.1, (Prod.mk.inj e).1, (Prod.mk.inj e).2, hr⟩
  · cases hr
theorem n_trig_Sin {σ : Type} (q : (Int × Bool) → Option σ) (x0 : Int) (x1 : Bool) : (f_trig_Sin x0 x1).bind q = K_trig_Sin f___fx_Acc__Sat f_trig_Wrap f_fx_Abs f_trig_m f_trig_series  x0 x1 q := by
  unfold f_trig_Sin
  exact m_trig_Sin q f___fx_Acc__Sat f_trig_Wrap f_fx_Abs f_trig_m f_trig_series   x0 x1 some
theorem s_trig_Sin : Sound Try.prog 69 (F_trig_Sin f_trig_Sin) :=
  (inl_sound (l := [(91, F___fx_Acc__Sat f___fx_Acc__Sat), (94, F_trig_Wrap f_trig_Wrap), (95, F_fx_Abs f_fx_Abs), (96, F_trig_m f_trig_m), (97, F_trig_series f_trig_series)]) (.cons s___fx_Acc__Sat (.cons s_trig_Wrap (.cons s_fx_Abs (.cons s_trig_m (.cons s_trig_series (.nil _)))))) mixed [] [] 200 (by kernel_rfl)).by (F := F_trig_Sin f_trig_Sin) fun args b r hr => by
  obtain ⟨x0, x1, rfl, rfl, hr1⟩ := e_trig_Sin hr
  exact inl_eval ((d_trig_Sin f___fx_Acc__Sat f_trig_Wrap f_fx_Abs f_trig_m f_trig_series  x0 x1).trans ((n_trig_Sin (fun (d : Int × Bool) => some (Res.mk (AV.r (RV.c (CV.f (FV.i IntKind.i64 d.fst)))) [Ch.set [Sg.c (CV.f (FV.b d.snd))]] [])) x0 x1).symm.trans hr1))

def K_trig_Cos {ρ : Type} (g_trig_Wrap : Int → Option Int) (g_trig_Sin : Int → Bool → Option (Int × Bool))  (x0 : Int) (x1 : Bool) (k : (Int × Bool) → Option ρ) : Option ρ :=
  Option.bind (g_trig_Wrap x0) fun (d : Int) => Option.bind (g_trig_Sin (IntKind.wrap IntKind.i64 (1686629713 + d)) x1) fun (d : Int × Bool) => k (d.fst, d.snd)
def f_trig_Cos (x0 : Int) (x1 : Bool) : Option (Int × Bool) := K_trig_Cos f_trig_Wrap f_trig_Sin  x0 x1 some
section
open Go.Ab.Rdr
def QA_trig_Cos := ((pair (cons (ar (rc (cptr (nat 0) (ok' (nat 0)) (nat 1)))) (cons (ar (rc (cf (fi .i64 hole)))) nil)) (cons (cons (gc (cf (fb hole))) nil) nil)) : Rdr (List AV × List Blk) _)
end
def F_trig_Cos (f : (Int) → (Bool) → Option (Int × Bool)) : Sem1 := fun args h => match (QA_trig_Cos).rd (args, h) with
  | some b => .opt (f b.1.2.1 b.2.1.1) fun (d : Int × Bool) => .leaf (Res.mk (AV.r (RV.c (CV.f (FV.i IntKind.i64 d.fst)))) [Ch.set [Sg.c (CV.f (FV.b d.snd))]] [])
  | none => .fail
theorem d_trig_Cos (g_trig_Wrap : Int → Option Int) (g_trig_Sin : Int → Bool → Option (Int × Bool))  (x0 : Int) (x1 : Bool) : den Try.prog (envOf [(94, F_trig_Wrap g_trig_Wrap), (69, F_trig_Sin g_trig_Sin)]) ⟨[], [], [], [], none⟩ 200 70 [.r (.c (.ptr 0 (.k 0) 1)), .r (.c (.f (.i .i64 x0)))] [[.c (.f (.b x1))]] =
    K_trig_Cos g_trig_Wrap g_trig_Sin  x0 x1 (fun (d : Int × Bool) => some (Res.mk (AV.r (RV.c (CV.f (FV.i IntKind.i64 d.fst)))) [Ch.set [Sg.c (CV.f (FV.b d.snd))]] [])) := by kernel_rfl
theorem m_trig_Cos {ρ σ : Type} (q : ρ → Option σ) (g_trig_Wrap : Int → Option Int) (g_trig_Sin : Int → Bool → Option (Int × Bool))   (x0 : Int) (x1 : Bool) (k : (Int × Bool) → Option ρ) : (K_trig_Cos g_trig_Wrap g_trig_Sin  x0 x1 k).bind q = K_trig_Cos g_trig_Wrap g_trig_Sin  x0 x1 (fun d => (k d).bind q) := by
  simp only [K_trig_Cos, bnd_cond, bnd_bind, bnd_none, bnd_sum]
theorem qa_trig_Cos : ∀ b, (QA_trig_Cos).em b = ([.r (.c (.ptr 0 (.k 0) 1)), .r (.c (.f (.i .i64 b.1.2.1)))], [[.c (.f (.b b.2.1.1))]]) := fun b => by kernel_rfl
theorem e_trig_Cos {f : (Int) → (Bool) → Option (Int × Bool)} {args : List AV} {h : List Blk} {r : Res} (hr : (F_trig_Cos f args h).eval = some r) : ∃ x0 x1, args = [.r (.c (.ptr 0 (.k 0) 1)), .r (.c (.f (.i .i64 x0)))] ∧ h = [[.c (.f (.b x1))]] ∧ (f x0 x1).bind (fun (d : Int × Bool) => some (Res.mk (AV.r (RV.c (CV.f (FV.i IntKind.i64 d.fst)))) [Ch.set [Sg.c (CV.f (FV.b d.snd))]] [])) = some r := by
  unfold F_trig_Cos at hr
  split at hr
  · rename_i b hb
    have e := ((QA_trig_Cos).ok _ _ hb).trans (qa_trig_Cos b)
    rw [opt_eval2] at hr
    exact ⟨b.1.2.1, b.2.1.1, (Prod.mk.inj e).1, (Prod.mk.inj e).2, hr⟩
  · cases hr
theorem n_trig_Cos {σ : Type} (q : (Int × Bool) → Option σ) (x0 : Int) (x1 : Bool) : (f_trig_Cos x0 x1).bind q = K_trig_Cos f_trig_Wrap f_trig_Sin  x0 x1 q := by
  unfold f_trig_Cos
  exact m_trig_Cos q f_trig_Wrap f_trig_Sin   x0 x1 some
theorem s_trig_Cos : Sound Try.prog 70 (F_trig_Cos f_trig_Cos) :=
  (inl_sound (l := [(94, F_trig_Wrap f_trig_Wrap), (69, F_trig_Sin f_trig_Sin)]) (.cons s_trig_Wrap (.cons s_trig_Sin (.nil _))) mixed [] [] 200 (by kernel_rfl)).by (F := F_trig_Cos f_trig_Cos) fun args b r hr => by
  obtain ⟨x0, x1, rfl, rfl, hr1⟩ := e_trig_Cos hr
  exact inl_eval ((d_trig_Cos f_trig_Wrap f_trig_Sin  x0 x1).trans ((n_trig_Cos (fun (d : Int × Bool) => some (Res.mk (AV.r (RV.c (CV.f (FV.i IntKind.i64 d.fst)))) [Ch.set [Sg.c (CV.f (FV.b d.snd))]] [])) x0 x1).symm.trans hr1))

def K_earth_Good {ρ : Type}   (x0 : Int) (x1 : Int) (x2 : Int) (k : (Bool) → Option ρ) : Option ρ :=
  bif decide (x0 ≥ -900000000) then
    bif decide (x0 ≤ 900000000) then
      bif decide (x1 ≥ -1800000000) then bif decide (x1 ≤ 1800000000) then bif decide (x2 ≥ -100000000) then k (decide (x2 ≤ 100000000)) else k false else k false else k false
    else k false
  else k false
def f_earth_Good (x0 : Int) (x1 : Int) (x2 : Int) : Option (Bool) := K_earth_Good   x0 x1 x2 some
section
open Go.Ab.Rdr
def QA_earth_Good := ((pair (cons (ar (ra (cons (gc (cf (fi .i64 hole))) (cons (gc (cf (fi .i64 hole))) (cons (gc (cf (fi .i64 hole))) nil))))) nil) nil) : Rdr (List AV × List Blk) _)
end
def F_earth_Good (f : (Int) → (Int) → (Int) → Option (Bool)) : Sem1 := fun args h => match (QA_earth_Good).rd (args, h) with
  | some b => .opt (f b.1.1.1 b.1.1.2.1 b.1.1.2.2.1) fun (d : Bool) => .leaf (Res.mk (AV.r (RV.c (CV.f (FV.b d)))) [] [])
  | none => .fail
theorem d_earth_Good   (x0 : Int) (x1 : Int) (x2 : Int) : den Try.prog (envOf []) ⟨[], [], [], [], none⟩ 200 40 [.r (.agg [.c (.f (.i .i64 x0)), .c (.f (.i .i64 x1)), .c (.f (.i .i64 x2))])] [] =
    K_earth_Good   x0 x1 x2 (fun (d : Bool) => some (Res.mk (AV.r (RV.c (CV.f (FV.b d)))) [] [])) := by kernel_rfl
theorem m_earth_Good {ρ σ : Type} (q : ρ → Option σ)    (x0 : Int) (x1 : Int) (x2 : Int) (k : (Bool) → Option ρ) : (K_earth_Good   x0 x1 x2 k).bind q = K_earth_Good   x0 x1 x2 (fun d => (k d).bind q) := by
  simp only [K_earth_Good, bnd_cond, bnd_bind, bnd_none, bnd_sum]
theorem qa_earth_Good : ∀ b, (QA_earth_Good).em b = ([.r (.agg [.c (.f (.i .i64 b.1.1.1)), .c (.f (.i .i64 b.1.1.2.1)), .c (.f (.i .i64 b.1.1.2.2.1))])], []) := fun b => by kernel_rfl
theorem e_earth_Good {f : (Int) → (Int) → (Int) → Option (Bool)} {args : List AV} {h : List Blk} {r : Res} (hr : (F_earth_Good f args h).eval = some r) : ∃ x0 x1 x2, args = [.r (.agg [.c (.f (.i .i64 x0)), .c (.f (.i .i64 x1)), .c (.f (.i .i64 x2))])] ∧ h = [] ∧ (f x0 x1 x2).bind (fun (d : Bool) => some (Res.mk (AV.r (RV.c (CV.f (FV.b d)))) [] [])) = some r := by
  unfold F_earth_Good at hr
  split at hr
  · rename_i b hb
    have e := ((QA_earth_Good).ok _ _ hb).trans (qa_earth_Good b)
    rw [opt_eval2] at hr
    exact ⟨b.1.1.1, b.1.1.2.1, b.1.1.2.2.1, (Prod.mk.inj e).1, (Prod.mk.inj e).2, hr⟩
  · cases hr
theorem n_earth_Good {σ : Type} (q : (Bool) → Option σ) (x0 : Int) (x1 : Int) (x2 : Int) : (f_earth_Good x0 x1 x2).bind q = K_earth_Good   x0 x1 x2 q := by
  unfold f_earth_Good
  exact m_earth_Good q    x0 x1 x2 some
theorem s_earth_Good : Sound Try.prog 40 (F_earth_Good f_earth_Good) :=
  (inl_sound (l := []) (.nil _) mixed [] [] 200 (by kernel_rfl)).by (F := F_earth_Good f_earth_Good) fun args b r hr => by
  obtain ⟨x0, x1, x2, rfl, rfl, hr1⟩ := e_earth_Good hr
  exact inl_eval ((d_earth_Good   x0 x1 x2).trans ((n_earth_Good (fun (d : Bool) => some (Res.mk (AV.r (RV.c (CV.f (FV.b d)))) [] [])) x0 x1 x2).symm.trans hr1))

def K___earth_Frame__To {ρ : Type} (g_earth_Good : Int → Int → Int → Option Bool) (g___fx_Acc__Mul : Int → Int → Int → Bool → Option (Int × Bool)) (g___fx_Acc__MulDiv : Int → Int → Int → Bool → Option (Int × Bool))  (x0 : Int) (x1 : Int) (x2 : Int) (x3 : Int) (x4 : Int) (x5 : Int) (x6 : Int) (x7 : Int) (x8 : Bool) (k : (Int × Int × Int × Int × Bool) → Option ρ) : Option ρ :=
  Option.bind (g_earth_Good x0 x1 x2) fun (d : Bool) =>
    bif !d then k (0, 0, 0, 1, x8)
    else
      bif decide (IntKind.wrap IntKind.i64 (x1 - x4) > 1800000000) then
        Option.bind (g___fx_Acc__Mul (IntKind.wrap IntKind.i64 (x0 - x3)) x6 10 x8) fun (d : Int × Bool) =>
          Option.bind (g___fx_Acc__Mul (IntKind.wrap IntKind.i64 (IntKind.wrap IntKind.i64 (x1 - x4) - 3600000000)) x7 10 d.snd) fun (d_1 : Int × Bool) =>
            Option.bind (g___fx_Acc__MulDiv (IntKind.wrap IntKind.i64 (x5 - x2)) 1073741824 1000 d_1.snd) fun (d_2 : Int × Bool) => k (d.fst, d_1.fst, d_2.fst, 0, d_2.snd)
      else
        bif decide (IntKind.wrap IntKind.i64 (x1 - x4) ≤ -1800000000) then
          Option.bind (g___fx_Acc__Mul (IntKind.wrap IntKind.i64 (x0 - x3)) x6 10 x8) fun (d : Int × Bool) =>
            Option.bind (g___fx_Acc__Mul (IntKind.wrap IntKind.i64 (IntKind.wrap IntKind.i64 (x1 - x4) + 3600000000)) x7 10 d.snd) fun (d_1 : Int × Bool) =>
              Option.bind (g___fx_Acc__MulDiv (IntKind.wrap IntKind.i64 (x5 - x2)) 1073741824 1000 d_1.snd) fun (d_2 : Int × Bool) => k (d.fst, d_1.fst, d_2.fst, 0, d_2.snd)
        else
          Option.bind (g___fx_Acc__Mul (IntKind.wrap IntKind.i64 (x0 - x3)) x6 10 x8) fun (d : Int × Bool) =>
            Option.bind (g___fx_Acc__Mul (IntKind.wrap IntKind.i64 (x1 - x4)) x7 10 d.snd) fun (d_1 : Int × Bool) =>
              Option.bind (g___fx_Acc__MulDiv (IntKind.wrap IntKind.i64 (x5 - x2)) 1073741824 1000 d_1.snd) fun (d_2 : Int × Bool) => k (d.fst, d_1.fst, d_2.fst, 0, d_2.snd)
def f___earth_Frame__To (x0 : Int) (x1 : Int) (x2 : Int) (x3 : Int) (x4 : Int) (x5 : Int) (x6 : Int) (x7 : Int) (x8 : Bool) : Option (Int × Int × Int × Int × Bool) := K___earth_Frame__To f_earth_Good f___fx_Acc__Mul f___fx_Acc__MulDiv  x0 x1 x2 x3 x4 x5 x6 x7 x8 some
section
open Go.Ab.Rdr
def QA___earth_Frame__To := ((pair (cons (ar (rc (cptr (nat 0) (ok' (nat 0)) (nat 5)))) (cons (ar (rc (cptr (nat 1) (ok' (nat 0)) (nat 1)))) (cons (ar (ra (cons (gc (cf (fi .i64 hole))) (cons (gc (cf (fi .i64 hole))) (cons (gc (cf (fi .i64 hole))) nil))))) nil))) (cons (cons (gc (cf (fi .i64 hole))) (cons (gc (cf (fi .i64 hole))) (cons (gc (cf (fi .i64 hole))) (cons (gc (cf (fi .i64 hole))) (cons (gc (cf (fi .i64 hole))) nil))))) (cons (cons (gc (cf (fb hole))) nil) nil))) : Rdr (List AV × List Blk) _)
end
def F___earth_Frame__To (f : (Int) → (Int) → (Int) → (Int) → (Int) → (Int) → (Int) → (Int) → (Bool) → Option (Int × Int × Int × Int × Bool)) : Sem1 := fun args h => match (QA___earth_Frame__To).rd (args, h) with
  | some b => .opt (f b.1.2.2.1.1 b.1.2.2.1.2.1 b.1.2.2.1.2.2.1 b.2.1.1 b.2.1.2.1 b.2.1.2.2.1 b.2.1.2.2.2.1 b.2.1.2.2.2.2.1 b.2.2.1.1) fun (d : Int × Int × Int × Int × Bool) => .leaf (Res.mk
    (AV.tup [RV.agg [Sg.c (CV.f (FV.i IntKind.i64 d.fst)), Sg.c (CV.f (FV.i IntKind.i64 d.snd.fst)), Sg.c (CV.f (FV.i IntKind.i64 d.snd.snd.fst))], RV.c (CV.f (FV.i IntKind.i64 d.snd.snd.snd.fst))])
    [Ch.keep, Ch.set [Sg.c (CV.f (FV.b d.snd.snd.snd.snd))]] [])
  | none => .fail
theorem d___earth_Frame__To (g_earth_Good : Int → Int → Int → Option Bool) (g___fx_Acc__Mul : Int → Int → Int → Bool → Option (Int × Bool)) (g___fx_Acc__MulDiv : Int → Int → Int → Bool → Option (Int × Bool))  (x0 : Int) (x1 : Int) (x2 : Int) (x3 : Int) (x4 : Int) (x5 : Int) (x6 : Int) (x7 : Int) (x8 : Bool) : den Try.prog (envOf [(40, F_earth_Good g_earth_Good), (67, F___fx_Acc__Mul g___fx_Acc__Mul), (68, F___fx_Acc__MulDiv g___fx_Acc__MulDiv)]) ⟨[], [], [1], [], none⟩ 200 39 [.r (.c (.ptr 0 (.k 0) 5)), .r (.c (.ptr 1 (.k 0) 1)), .r (.agg [.c (.f (.i .i64 x0)), .c (.f (.i .i64 x1)), .c (.f (.i .i64 x2))])] [[.c (.f (.i .i64 x3)), .c (.f (.i .i64 x4)), .c (.f (.i .i64 x5)), .c (.f (.i .i64 x6)), .c (.f (.i .i64 x7))], [.c (.f (.b x8))]] =
    K___earth_Frame__To g_earth_Good g___fx_Acc__Mul g___fx_Acc__MulDiv  x0 x1 x2 x3 x4 x5 x6 x7 x8 (fun (d : Int × Int × Int × Int × Bool) => some (Res.mk
    (AV.tup [RV.agg [Sg.c (CV.f (FV.i IntKind.i64 d.fst)), Sg.c (CV.f (FV.i IntKind.i64 d.snd.fst)), Sg.c (CV.f (FV.i IntKind.i64 d.snd.snd.fst))], RV.c (CV.f (FV.i IntKind.i64 d.snd.snd.snd.fst))])
    [Ch.keep, Ch.set [Sg.c (CV.f (FV.b d.snd.snd.snd.snd))]] [])) := by kernel_rfl
theorem m___earth_Frame__To {ρ σ : Type} (q : ρ → Option σ) (g_earth_Good : Int → Int → Int → Option Bool) (g___fx_Acc__Mul : Int → Int → Int → Bool → Option (Int × Bool)) (g___fx_Acc__MulDiv : Int → Int → Int → Bool → Option (Int × Bool))   (x0 : Int) (x1 : Int) (x2 : Int) (x3 : Int) (x4 : Int) (x5 : Int) (x6 : Int) (x7 : Int) (x8 : Bool) (k : (Int × Int × Int × Int × Bool) → Option ρ) : (K___earth_Frame__To g_earth_Good g___fx_Acc__Mul g___fx_Acc__MulDiv  x0 x1 x2 x3 x4 x5 x6 x7 x8 k).bind q = K___earth_Frame__To g_earth_Good g___fx_Acc__Mul g___fx_Acc__MulDiv  x0 x1 x2 x3 x4 x5 x6 x7 x8 (fun d => (k d).bind q) := by
  simp only [K___earth_Frame__To, bnd_cond, bnd_bind, bnd_none, bnd_sum]
theorem qa___earth_Frame__To : ∀ b, (QA___earth_Frame__To).em b = ([.r (.c (.ptr 0 (.k 0) 5)), .r (.c (.ptr 1 (.k 0) 1)), .r (.agg [.c (.f (.i .i64 b.1.2.2.1.1)), .c (.f (.i .i64 b.1.2.2.1.2.1)), .c (.f (.i .i64 b.1.2.2.1.2.2.1))])], [[.c (.f (.i .i64 b.2.1.1)), .c (.f (.i .i64 b.2.1.2.1)), .c (.f (.i .i64 b.2.1.2.2.1)), .c (.f (.i .i64 b.2.1.2.2.2.1)), .c (.f (.i .i64 b.2.1.2.2.2.2.1))], [.c (.f (.b b.2.2.1.1))]]) := fun b => by kernel_rfl
theorem e___earth_Frame__To {f : (Int) → (Int) → (Int) → (Int) → (Int) → (Int) → (Int) → (Int) → (Bool) → Option (Int × Int × Int × Int × Bool)} {args : List AV} {h : List Blk} {r : Res} (hr : (F___earth_Frame__To f args h).eval = some r) : ∃ x0 x1 x2 x3 x4 x5 x6 x7 x8, args = [.r (.c (.ptr 0 (.k 0) 5)), .r (.c (.ptr 1 (.k 0) 1)), .r (.agg [.c (.f (.i .i64 x0)), .c (.f (.i .i64 x1)), .c (.f (.i .i64 x2))])] ∧ h = [[.c (.f (.i .i64 x3)), .c (.f (.i .i64 x4)), .c (.f (.i .i64 x5)), .c (.f (.i .i64 x6)), .c (.f (.i .i64 x7))], [.c (.f (.b x8))]] ∧ (f x0 x1 x2 x3 x4 x5 x6 x7 x8).bind (fun (d : Int × Int × Int × Int × Bool) => some (Res.mk
    (AV.tup [RV.agg [Sg.c (CV.f (FV.i IntKind.i64 d.fst)), Sg.c (CV.f (FV.i IntKind.i64 d.snd.fst)), Sg.c (CV.f (FV.i IntKind.i64 d.snd.snd.fst))], RV.c (CV.f (FV.i IntKind.i64 d.snd.snd.snd.fst))])
    [Ch.keep, Ch.set [Sg.c (CV.f (FV.b d.snd.snd.snd.snd))]] [])) = some r := by
  unfold F___earth_Frame__To at hr
  split at hr
  · rename_i b hb
    have e := ((QA___earth_Frame__To).ok _ _ hb).trans (qa___earth_Frame__To b)
    rw [opt_eval2] at hr
    exact ⟨b.1.2.2.1.1, b.1.2.2.1.2.1, b.1.2.2.1.2.2.1, b.2.1.1, b.2.1.2.1, b.2.1.2.2.1, b.2.1.2.2.2.1, b.2.1.2.2.2.2.1, b.2.2.1.1, (Prod.mk.inj e).1, (Prod.mk.inj e).2, hr⟩
  · cases hr
theorem n___earth_Frame__To {σ : Type} (q : (Int × Int × Int × Int × Bool) → Option σ) (x0 : Int) (x1 : Int) (x2 : Int) (x3 : Int) (x4 : Int) (x5 : Int) (x6 : Int) (x7 : Int) (x8 : Bool) : (f___earth_Frame__To x0 x1 x2 x3 x4 x5 x6 x7 x8).bind q = K___earth_Frame__To f_earth_Good f___fx_Acc__Mul f___fx_Acc__MulDiv  x0 x1 x2 x3 x4 x5 x6 x7 x8 q := by
  unfold f___earth_Frame__To
  exact m___earth_Frame__To q f_earth_Good f___fx_Acc__Mul f___fx_Acc__MulDiv   x0 x1 x2 x3 x4 x5 x6 x7 x8 some
theorem s___earth_Frame__To : Sound Try.prog 39 (F___earth_Frame__To f___earth_Frame__To) :=
  (inl_sound (l := [(40, F_earth_Good f_earth_Good), (67, F___fx_Acc__Mul f___fx_Acc__Mul), (68, F___fx_Acc__MulDiv f___fx_Acc__MulDiv)]) (.cons s_earth_Good (.cons s___fx_Acc__Mul (.cons s___fx_Acc__MulDiv (.nil _)))) mixed [] [1] 200 (by kernel_rfl)).by (F := F___earth_Frame__To f___earth_Frame__To) fun args b r hr => by
  obtain ⟨x0, x1, x2, x3, x4, x5, x6, x7, x8, rfl, rfl, hr1⟩ := e___earth_Frame__To hr
  exact inl_eval ((d___earth_Frame__To f_earth_Good f___fx_Acc__Mul f___fx_Acc__MulDiv  x0 x1 x2 x3 x4 x5 x6 x7 x8).trans ((n___earth_Frame__To (fun (d : Int × Int × Int × Int × Bool) => some (Res.mk
    (AV.tup [RV.agg [Sg.c (CV.f (FV.i IntKind.i64 d.fst)), Sg.c (CV.f (FV.i IntKind.i64 d.snd.fst)), Sg.c (CV.f (FV.i IntKind.i64 d.snd.snd.fst))], RV.c (CV.f (FV.i IntKind.i64 d.snd.snd.snd.fst))])
    [Ch.keep, Ch.set [Sg.c (CV.f (FV.b d.snd.snd.snd.snd))]] [])) x0 x1 x2 x3 x4 x5 x6 x7 x8).symm.trans hr1))

end Go.Proofs.Ytcalippagaaikaa
end
