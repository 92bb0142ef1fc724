/-
  Contracts by plain functions: math/bits.Len64, math/bits.LeadingZeros64, math/bits.Div64, wide.Div
-/
import Derived.Test.YtcalippagaaikaaC1
set_option maxRecDepth 100000
set_option maxHeartbeats 4000000
set_option linter.unusedVariables false
namespace Go.Proofs.Ytcalippagaaikaa
open Go.Ab
def S_math_bits_Len64_2 {ρ : Type}   (x0 : Int) (x1 : Int) (c : (Int × Int) → Option ρ) (x : (Int) → Option ρ) : Option ρ :=
  bif inR (IntKind.wrap IntKind.u8 x0) 256 then
    x
      (IntKind.wrap IntKind.i64
        (x1 +
          IntKind.wrap IntKind.i64
            (byteAt
              (ByteArray.mk
                (List.toArray
                  (List.append
                    (List.append
                      [0, 1, 2, 2, 3, 3, 3, 3, 4, 4, 4, 4, 4, 4, 4, 4, 5, 5, 5, 5, 5, 5, 5, 5, 5, 5, 5, 5, 5, 5, 5, 5, 6, 6, 6, 6, 6, 6, 6, 6, 6, 6, 6, 6, 6, 6, 6, 6, 6, 6, 6, 6, 6, 6, 6, 6, 6, 6, 6, 6,
                        6, 6, 6, 6]
                      [7, 7, 7, 7, 7, 7, 7, 7, 7, 7, 7, 7, 7, 7, 7, 7, 7, 7, 7, 7, 7, 7, 7, 7, 7, 7, 7, 7, 7, 7, 7, 7, 7, 7, 7, 7, 7, 7, 7, 7, 7, 7, 7, 7, 7, 7, 7, 7, 7, 7, 7, 7, 7, 7, 7, 7, 7, 7, 7, 7,
                        7, 7, 7, 7])
                    (List.append
                      [8, 8, 8, 8, 8, 8, 8, 8, 8, 8, 8, 8, 8, 8, 8, 8, 8, 8, 8, 8, 8, 8, 8, 8, 8, 8, 8, 8, 8, 8, 8, 8, 8, 8, 8, 8, 8, 8, 8, 8, 8, 8, 8, 8, 8, 8, 8, 8, 8, 8, 8, 8, 8, 8, 8, 8, 8, 8, 8, 8,
                        8, 8, 8, 8]
                      [8, 8, 8, 8, 8, 8, 8, 8, 8, 8, 8, 8, 8, 8, 8, 8, 8, 8, 8, 8, 8, 8, 8, 8, 8, 8, 8, 8, 8, 8, 8, 8, 8, 8, 8, 8, 8, 8, 8, 8, 8, 8, 8, 8, 8, 8, 8, 8, 8, 8, 8, 8, 8, 8, 8, 8, 8, 8, 8, 8,
                        8, 8, 8, 8]))))
              (Int.toNat (IntKind.wrap IntKind.u8 x0)))))
  else none
section
open Go.Ab.Rdr
def Q_math_bits_Len64_2 := (st (cons (ar (rc (cf (fi .u64 hole)))) (cons aund (cons (ar (rc (cf (fi .i64 hole)))) (cons aund (cons aund (cons aund (cons aund (cons aund (cons aund (cons aund (cons aund (cons aund (cons aund (cons aund (cons aund (cons aund (cons aund (cons aund (cons aund (cons aund (cons aund (cons aund (cons aund (cons aund (cons aund nil))))))))))))))))))))))))) nil nil)
end
theorem q_math_bits_Len64_2 : ∀ b, (Q_math_bits_Len64_2).em b = St.mk
    [AV.r (RV.c (CV.f (FV.i IntKind.u64 b.1.1))), AV.und, AV.r (RV.c (CV.f (FV.i IntKind.i64 b.1.2.2.1))), AV.und, AV.und, AV.und, AV.und, AV.und, AV.und, AV.und, AV.und, AV.und, AV.und, AV.und, AV.und, AV.und,
      AV.und, AV.und, AV.und, AV.und, AV.und, AV.und, AV.und, AV.und, AV.und]
    [] [] := fun b => by kernel_rfl
def R_math_bits_Len64_2 (l : ∀ {ρ : Type}, (Int × Int) → ((Int) → Option ρ) → Option ρ) {ρ : Type} (s : St) (K : AX → St → Option ρ) : Option ρ := ((Q_math_bits_Len64_2).rd s).bind fun b => l (b.1.1, b.1.2.2.1) (fun d => K (AX.ret) (St.mk
  [AV.und, AV.und, AV.r (RV.c (CV.f (FV.i IntKind.i64 d))), AV.und, AV.und, AV.und, AV.und, AV.und, AV.und, AV.und, AV.und, AV.und, AV.und, AV.und, AV.und, AV.und, AV.und, AV.und, AV.und, AV.und,
    AV.und, AV.und, AV.und, AV.und, AV.und]
  [] []))
theorem ms_math_bits_Len64_2 {ρ σ : Type}    (q : ρ → Option σ) (x0 : Int) (x1 : Int) (c : (Int × Int) → Option ρ) (x : (Int) → Option ρ) : (S_math_bits_Len64_2   x0 x1 c x).bind q = S_math_bits_Len64_2   x0 x1 (fun d => (c d).bind q) (fun d => (x d).bind q) := by
  simp only [S_math_bits_Len64_2, bnd_cond, bnd_bind, bnd_none, bnd_sum]
def L_math_bits_Len64_2 {ρ : Type} (d : Int × Int) (k : (Int) → Option ρ) : Option ρ := S_math_bits_Len64_2   d.1 d.2 (fun _ => none) k
theorem mL_math_bits_Len64_2 {ρ σ : Type} (q : ρ → Option σ) (d : Int × Int) (k : (Int) → Option ρ) : (L_math_bits_Len64_2 d k).bind q = L_math_bits_Len64_2 d fun x => (k x).bind q :=
  ms_math_bits_Len64_2    q d.1 d.2 (fun _ => none) k
def S_math_bits_Len64_1 {ρ : Type}  (l_2 : ∀ {ρ : Type}, (Int × Int) → ((Int) → Option ρ) → Option ρ) (x0 : Int) (x1 : Int) (c : (Int × Int) → Option ρ) (x : (Int) → Option ρ) : Option ρ :=
  bif decide (x0 ≥ 256) then l_2 (Int.fdiv x0 256, IntKind.wrap IntKind.i64 (x1 + 8)) fun (d : Int) => x d else l_2 (x0, x1) fun (d : Int) => x d
section
open Go.Ab.Rdr
def Q_math_bits_Len64_1 := (st (cons (ar (rc (cf (fi .u64 hole)))) (cons aund (cons (ar (rc (cf (fi .i64 hole)))) (cons aund (cons aund (cons aund (cons aund (cons aund (cons aund (cons aund (cons aund (cons aund (cons aund (cons aund (cons aund (cons aund (cons aund (cons aund (cons aund (cons aund (cons aund (cons aund (cons aund (cons aund (cons aund nil))))))))))))))))))))))))) nil nil)
end
theorem q_math_bits_Len64_1 : ∀ b, (Q_math_bits_Len64_1).em b = St.mk
    [AV.r (RV.c (CV.f (FV.i IntKind.u64 b.1.1))), AV.und, AV.r (RV.c (CV.f (FV.i IntKind.i64 b.1.2.2.1))), AV.und, AV.und, AV.und, AV.und, AV.und, AV.und, AV.und, AV.und, AV.und, AV.und, AV.und, AV.und, AV.und,
      AV.und, AV.und, AV.und, AV.und, AV.und, AV.und, AV.und, AV.und, AV.und]
    [] [] := fun b => by kernel_rfl
def R_math_bits_Len64_1 (l : ∀ {ρ : Type}, (Int × Int) → ((Int) → Option ρ) → Option ρ) {ρ : Type} (s : St) (K : AX → St → Option ρ) : Option ρ := ((Q_math_bits_Len64_1).rd s).bind fun b => l (b.1.1, b.1.2.2.1) (fun d => K (AX.ret) (St.mk
  [AV.und, AV.und, AV.r (RV.c (CV.f (FV.i IntKind.i64 d))), AV.und, AV.und, AV.und, AV.und, AV.und, AV.und, AV.und, AV.und, AV.und, AV.und, AV.und, AV.und, AV.und, AV.und, AV.und, AV.und, AV.und,
    AV.und, AV.und, AV.und, AV.und, AV.und]
  [] []))
theorem ms_math_bits_Len64_1 {ρ σ : Type}  (l_2 : ∀ {ρ : Type}, (Int × Int) → ((Int) → Option ρ) → Option ρ) (hl_2 : ∀ {ρ σ : Type} (q : ρ → Option σ) (d : Int × Int) (k : (Int) → Option ρ), (l_2 d k).bind q = l_2 d fun x => (k x).bind q) (q : ρ → Option σ) (x0 : Int) (x1 : Int) (c : (Int × Int) → Option ρ) (x : (Int) → Option ρ) : (S_math_bits_Len64_1  (@l_2) x0 x1 c x).bind q = S_math_bits_Len64_1  (@l_2) x0 x1 (fun d => (c d).bind q) (fun d => (x d).bind q) := by
  simp only [S_math_bits_Len64_1, bnd_cond, bnd_bind, bnd_none, bnd_sum, hl_2]
def L_math_bits_Len64_1 {ρ : Type} (d : Int × Int) (k : (Int) → Option ρ) : Option ρ := S_math_bits_Len64_1  (@L_math_bits_Len64_2) d.1 d.2 (fun _ => none) k
theorem mL_math_bits_Len64_1 {ρ σ : Type} (q : ρ → Option σ) (d : Int × Int) (k : (Int) → Option ρ) : (L_math_bits_Len64_1 d k).bind q = L_math_bits_Len64_1 d fun x => (k x).bind q :=
  ms_math_bits_Len64_1  (@L_math_bits_Len64_2) (fun q d k => mL_math_bits_Len64_2 q d k) q d.1 d.2 (fun _ => none) k
def S_math_bits_Len64_0 {ρ : Type}  (l_1 : ∀ {ρ : Type}, (Int × Int) → ((Int) → Option ρ) → Option ρ) (x0 : Int) (x1 : Int) (c : (Int × Int) → Option ρ) (x : (Int) → Option ρ) : Option ρ :=
  bif decide (x0 ≥ 65536) then l_1 (Int.fdiv x0 65536, IntKind.wrap IntKind.i64 (x1 + 16)) fun (d : Int) => x d else l_1 (x0, x1) fun (d : Int) => x d
section
open Go.Ab.Rdr
def Q_math_bits_Len64_0 := (st (cons (ar (rc (cf (fi .u64 hole)))) (cons aund (cons (ar (rc (cf (fi .i64 hole)))) (cons aund (cons aund (cons aund (cons aund (cons aund (cons aund (cons aund (cons aund (cons aund (cons aund (cons aund (cons aund (cons aund (cons aund (cons aund (cons aund (cons aund (cons aund (cons aund (cons aund (cons aund (cons aund nil))))))))))))))))))))))))) nil nil)
end
theorem q_math_bits_Len64_0 : ∀ b, (Q_math_bits_Len64_0).em b = St.mk
    [AV.r (RV.c (CV.f (FV.i IntKind.u64 b.1.1))), AV.und, AV.r (RV.c (CV.f (FV.i IntKind.i64 b.1.2.2.1))), AV.und, AV.und, AV.und, AV.und, AV.und, AV.und, AV.und, AV.und, AV.und, AV.und, AV.und, AV.und, AV.und,
      AV.und, AV.und, AV.und, AV.und, AV.und, AV.und, AV.und, AV.und, AV.und]
    [] [] := fun b => by kernel_rfl
def R_math_bits_Len64_0 (l : ∀ {ρ : Type}, (Int × Int) → ((Int) → Option ρ) → Option ρ) {ρ : Type} (s : St) (K : AX → St → Option ρ) : Option ρ := ((Q_math_bits_Len64_0).rd s).bind fun b => l (b.1.1, b.1.2.2.1) (fun d => K (AX.ret) (St.mk
  [AV.und, AV.und, AV.r (RV.c (CV.f (FV.i IntKind.i64 d))), AV.und, AV.und, AV.und, AV.und, AV.und, AV.und, AV.und, AV.und, AV.und, AV.und, AV.und, AV.und, AV.und, AV.und, AV.und, AV.und, AV.und,
    AV.und, AV.und, AV.und, AV.und, AV.und]
  [] []))
theorem ms_math_bits_Len64_0 {ρ σ : Type}  (l_1 : ∀ {ρ : Type}, (Int × Int) → ((Int) → Option ρ) → Option ρ) (hl_1 : ∀ {ρ σ : Type} (q : ρ → Option σ) (d : Int × Int) (k : (Int) → Option ρ), (l_1 d k).bind q = l_1 d fun x => (k x).bind q) (q : ρ → Option σ) (x0 : Int) (x1 : Int) (c : (Int × Int) → Option ρ) (x : (Int) → Option ρ) : (S_math_bits_Len64_0  (@l_1) x0 x1 c x).bind q = S_math_bits_Len64_0  (@l_1) x0 x1 (fun d => (c d).bind q) (fun d => (x d).bind q) := by
  simp only [S_math_bits_Len64_0, bnd_cond, bnd_bind, bnd_none, bnd_sum, hl_1]
def L_math_bits_Len64_0 {ρ : Type} (d : Int × Int) (k : (Int) → Option ρ) : Option ρ := S_math_bits_Len64_0  (@L_math_bits_Len64_1) d.1 d.2 (fun _ => none) k
theorem mL_math_bits_Len64_0 {ρ σ : Type} (q : ρ → Option σ) (d : Int × Int) (k : (Int) → Option ρ) : (L_math_bits_Len64_0 d k).bind q = L_math_bits_Len64_0 d fun x => (k x).bind q :=
  ms_math_bits_Len64_0  (@L_math_bits_Len64_1) (fun q d k => mL_math_bits_Len64_1 q d k) q d.1 d.2 (fun _ => none) k
theorem ds_math_bits_Len64_2 {ρ : Type}  (l_2 : ∀ {ρ : Type}, (Int × Int) → ((Int) → Option ρ) → Option ρ) (l_1 : ∀ {ρ : Type}, (Int × Int) → ((Int) → Option ρ) → Option ρ) (l_0 : ∀ {ρ : Type}, (Int × Int) → ((Int) → Option ρ) → Option ρ) (x0 : Int) (x1 : Int) (K : AX → St → Option ρ) :
    runC Try.prog (envOf []) ⟨[], [], [], [⟨⟨4, [1, 3, 4, 5, 6, 7, 8, 9, 10, 11, 12, 13, 14, 15, 16, 17, 18, 19, 20, 21, 22, 23, 24], []⟩, ⟨4, 0, @R_math_bits_Len64_0 (@l_0)⟩⟩, ⟨⟨7, [1, 3, 4, 5, 6, 7, 8, 9, 10, 11, 12, 13, 14, 15, 16, 17, 18, 19, 20, 21, 22, 23, 24], []⟩, ⟨7, 0, @R_math_bits_Len64_1 (@l_1)⟩⟩, ⟨⟨10, [1, 3, 4, 5, 6, 7, 8, 9, 10, 11, 12, 13, 14, 15, 16, 17, 18, 19, 20, 21, 22, 23, 24], []⟩, ⟨10, 0, @R_math_bits_Len64_2 (@l_2)⟩⟩], (some ⟨0, [0, 1, 3, 4, 5, 6, 7, 8, 9, 10, 11, 12, 13, 14, 15, 16, 17, 18, 19, 20, 21, 22, 23, 24], []⟩)⟩ (tmpsOf Try.prog 110) 0 200 (joinIn Try.prog 110 10)
      (St.mk
    [AV.r (RV.c (CV.f (FV.i IntKind.u64 x0))), AV.und, AV.r (RV.c (CV.f (FV.i IntKind.i64 x1))), AV.und, AV.und, AV.und, AV.und, AV.und, AV.und, AV.und, AV.und, AV.und, AV.und, AV.und, AV.und, AV.und,
      AV.und, AV.und, AV.und, AV.und, AV.und, AV.und, AV.und, AV.und, AV.und]
    [] []) K =
    S_math_bits_Len64_2   x0 x1 (fun _ => none) (fun d => K (AX.ret) (St.mk
  [AV.und, AV.und, AV.r (RV.c (CV.f (FV.i IntKind.i64 d))), AV.und, AV.und, AV.und, AV.und, AV.und, AV.und, AV.und, AV.und, AV.und, AV.und, AV.und, AV.und, AV.und, AV.und, AV.und, AV.und, AV.und,
    AV.und, AV.und, AV.und, AV.und, AV.und]
  [] [])) := by kernel_rfl
theorem so_math_bits_Len64_2 : ∀ kk, JnOK Try.prog (envOf []) ⟨[], [], [], [⟨⟨4, [1, 3, 4, 5, 6, 7, 8, 9, 10, 11, 12, 13, 14, 15, 16, 17, 18, 19, 20, 21, 22, 23, 24], []⟩, ⟨4, 0, @R_math_bits_Len64_0 (@L_math_bits_Len64_0)⟩⟩, ⟨⟨7, [1, 3, 4, 5, 6, 7, 8, 9, 10, 11, 12, 13, 14, 15, 16, 17, 18, 19, 20, 21, 22, 23, 24], []⟩, ⟨7, 0, @R_math_bits_Len64_1 (@L_math_bits_Len64_1)⟩⟩, ⟨⟨10, [1, 3, 4, 5, 6, 7, 8, 9, 10, 11, 12, 13, 14, 15, 16, 17, 18, 19, 20, 21, 22, 23, 24], []⟩, ⟨10, 0, @R_math_bits_Len64_2 (@L_math_bits_Len64_2)⟩⟩], (some ⟨0, [0, 1, 3, 4, 5, 6, 7, 8, 9, 10, 11, 12, 13, 14, 15, 16, 17, 18, 19, 20, 21, 22, 23, 24], []⟩)⟩ (tmpsOf Try.prog 110) kk 200 (joinIn Try.prog 110 10) :=
  JnOK.of (id := 10) (k0 := 0) (hd := ⟨10, [1, 3, 4, 5, 6, 7, 8, 9, 10, 11, 12, 13, 14, 15, 16, 17, 18, 19, 20, 21, 22, 23, 24], []⟩) (run := @R_math_bits_Len64_2 (@L_math_bits_Len64_2)) (by kernel_rfl) fun s K r hr => by
    unfold R_math_bits_Len64_2 at hr
    obtain ⟨b, hb, hr1⟩ := Option.bind_eq_some_iff.1 hr
    have e := ((Q_math_bits_Len64_2).ok s b hb).trans (q_math_bits_Len64_2 b)
    subst e
    exact (ds_math_bits_Len64_2  (@L_math_bits_Len64_2) (@L_math_bits_Len64_1) (@L_math_bits_Len64_0) b.1.1 b.1.2.2.1 K).trans hr1
theorem ds_math_bits_Len64_1 {ρ : Type}  (l_2 : ∀ {ρ : Type}, (Int × Int) → ((Int) → Option ρ) → Option ρ) (l_1 : ∀ {ρ : Type}, (Int × Int) → ((Int) → Option ρ) → Option ρ) (l_0 : ∀ {ρ : Type}, (Int × Int) → ((Int) → Option ρ) → Option ρ) (x0 : Int) (x1 : Int) (K : AX → St → Option ρ) :
    runC Try.prog (envOf []) ⟨[], [], [], [⟨⟨4, [1, 3, 4, 5, 6, 7, 8, 9, 10, 11, 12, 13, 14, 15, 16, 17, 18, 19, 20, 21, 22, 23, 24], []⟩, ⟨4, 0, @R_math_bits_Len64_0 (@l_0)⟩⟩, ⟨⟨7, [1, 3, 4, 5, 6, 7, 8, 9, 10, 11, 12, 13, 14, 15, 16, 17, 18, 19, 20, 21, 22, 23, 24], []⟩, ⟨7, 0, @R_math_bits_Len64_1 (@l_1)⟩⟩, ⟨⟨10, [1, 3, 4, 5, 6, 7, 8, 9, 10, 11, 12, 13, 14, 15, 16, 17, 18, 19, 20, 21, 22, 23, 24], []⟩, ⟨10, 0, @R_math_bits_Len64_2 (@l_2)⟩⟩], (some ⟨0, [0, 1, 3, 4, 5, 6, 7, 8, 9, 10, 11, 12, 13, 14, 15, 16, 17, 18, 19, 20, 21, 22, 23, 24], []⟩)⟩ (tmpsOf Try.prog 110) 0 200 (joinIn Try.prog 110 7)
      (St.mk
    [AV.r (RV.c (CV.f (FV.i IntKind.u64 x0))), AV.und, AV.r (RV.c (CV.f (FV.i IntKind.i64 x1))), AV.und, AV.und, AV.und, AV.und, AV.und, AV.und, AV.und, AV.und, AV.und, AV.und, AV.und, AV.und, AV.und,
      AV.und, AV.und, AV.und, AV.und, AV.und, AV.und, AV.und, AV.und, AV.und]
    [] []) K =
    S_math_bits_Len64_1  (@l_2) x0 x1 (fun _ => none) (fun d => K (AX.ret) (St.mk
  [AV.und, AV.und, AV.r (RV.c (CV.f (FV.i IntKind.i64 d))), AV.und, AV.und, AV.und, AV.und, AV.und, AV.und, AV.und, AV.und, AV.und, AV.und, AV.und, AV.und, AV.und, AV.und, AV.und, AV.und, AV.und,
    AV.und, AV.und, AV.und, AV.und, AV.und]
  [] [])) := by kernel_rfl
theorem so_math_bits_Len64_1 : ∀ kk, JnOK Try.prog (envOf []) ⟨[], [], [], [⟨⟨4, [1, 3, 4, 5, 6, 7, 8, 9, 10, 11, 12, 13, 14, 15, 16, 17, 18, 19, 20, 21, 22, 23, 24], []⟩, ⟨4, 0, @R_math_bits_Len64_0 (@L_math_bits_Len64_0)⟩⟩, ⟨⟨7, [1, 3, 4, 5, 6, 7, 8, 9, 10, 11, 12, 13, 14, 15, 16, 17, 18, 19, 20, 21, 22, 23, 24], []⟩, ⟨7, 0, @R_math_bits_Len64_1 (@L_math_bits_Len64_1)⟩⟩, ⟨⟨10, [1, 3, 4, 5, 6, 7, 8, 9, 10, 11, 12, 13, 14, 15, 16, 17, 18, 19, 20, 21, 22, 23, 24], []⟩, ⟨10, 0, @R_math_bits_Len64_2 (@L_math_bits_Len64_2)⟩⟩], (some ⟨0, [0, 1, 3, 4, 5, 6, 7, 8, 9, 10, 11, 12, 13, 14, 15, 16, 17, 18, 19, 20, 21, 22, 23, 24], []⟩)⟩ (tmpsOf Try.prog 110) kk 200 (joinIn Try.prog 110 7) :=
  JnOK.of (id := 7) (k0 := 0) (hd := ⟨7, [1, 3, 4, 5, 6, 7, 8, 9, 10, 11, 12, 13, 14, 15, 16, 17, 18, 19, 20, 21, 22, 23, 24], []⟩) (run := @R_math_bits_Len64_1 (@L_math_bits_Len64_1)) (by kernel_rfl) fun s K r hr => by
    unfold R_math_bits_Len64_1 at hr
    obtain ⟨b, hb, hr1⟩ := Option.bind_eq_some_iff.1 hr
    have e := ((Q_math_bits_Len64_1).ok s b hb).trans (q_math_bits_Len64_1 b)
    subst e
    exact (ds_math_bits_Len64_1  (@L_math_bits_Len64_2) (@L_math_bits_Len64_1) (@L_math_bits_Len64_0) b.1.1 b.1.2.2.1 K).trans hr1
theorem ds_math_bits_Len64_0 {ρ : Type}  (l_2 : ∀ {ρ : Type}, (Int × Int) → ((Int) → Option ρ) → Option ρ) (l_1 : ∀ {ρ : Type}, (Int × Int) → ((Int) → Option ρ) → Option ρ) (l_0 : ∀ {ρ : Type}, (Int × Int) → ((Int) → Option ρ) → Option ρ) (x0 : Int) (x1 : Int) (K : AX → St → Option ρ) :
    runC Try.prog (envOf []) ⟨[], [], [], [⟨⟨4, [1, 3, 4, 5, 6, 7, 8, 9, 10, 11, 12, 13, 14, 15, 16, 17, 18, 19, 20, 21, 22, 23, 24], []⟩, ⟨4, 0, @R_math_bits_Len64_0 (@l_0)⟩⟩, ⟨⟨7, [1, 3, 4, 5, 6, 7, 8, 9, 10, 11, 12, 13, 14, 15, 16, 17, 18, 19, 20, 21, 22, 23, 24], []⟩, ⟨7, 0, @R_math_bits_Len64_1 (@l_1)⟩⟩, ⟨⟨10, [1, 3, 4, 5, 6, 7, 8, 9, 10, 11, 12, 13, 14, 15, 16, 17, 18, 19, 20, 21, 22, 23, 24], []⟩, ⟨10, 0, @R_math_bits_Len64_2 (@l_2)⟩⟩], (some ⟨0, [0, 1, 3, 4, 5, 6, 7, 8, 9, 10, 11, 12, 13, 14, 15, 16, 17, 18, 19, 20, 21, 22, 23, 24], []⟩)⟩ (tmpsOf Try.prog 110) 0 200 (joinIn Try.prog 110 4)
      (St.mk
    [AV.r (RV.c (CV.f (FV.i IntKind.u64 x0))), AV.und, AV.r (RV.c (CV.f (FV.i IntKind.i64 x1))), AV.und, AV.und, AV.und, AV.und, AV.und, AV.und, AV.und, AV.und, AV.und, AV.und, AV.und, AV.und, AV.und,
      AV.und, AV.und, AV.und, AV.und, AV.und, AV.und, AV.und, AV.und, AV.und]
    [] []) K =
    S_math_bits_Len64_0  (@l_1) x0 x1 (fun _ => none) (fun d => K (AX.ret) (St.mk
  [AV.und, AV.und, AV.r (RV.c (CV.f (FV.i IntKind.i64 d))), AV.und, AV.und, AV.und, AV.und, AV.und, AV.und, AV.und, AV.und, AV.und, AV.und, AV.und, AV.und, AV.und, AV.und, AV.und, AV.und, AV.und,
    AV.und, AV.und, AV.und, AV.und, AV.und]
  [] [])) := by kernel_rfl
theorem so_math_bits_Len64_0 : ∀ kk, JnOK Try.prog (envOf []) ⟨[], [], [], [⟨⟨4, [1, 3, 4, 5, 6, 7, 8, 9, 10, 11, 12, 13, 14, 15, 16, 17, 18, 19, 20, 21, 22, 23, 24], []⟩, ⟨4, 0, @R_math_bits_Len64_0 (@L_math_bits_Len64_0)⟩⟩, ⟨⟨7, [1, 3, 4, 5, 6, 7, 8, 9, 10, 11, 12, 13, 14, 15, 16, 17, 18, 19, 20, 21, 22, 23, 24], []⟩, ⟨7, 0, @R_math_bits_Len64_1 (@L_math_bits_Len64_1)⟩⟩, ⟨⟨10, [1, 3, 4, 5, 6, 7, 8, 9, 10, 11, 12, 13, 14, 15, 16, 17, 18, 19, 20, 21, 22, 23, 24], []⟩, ⟨10, 0, @R_math_bits_Len64_2 (@L_math_bits_Len64_2)⟩⟩], (some ⟨0, [0, 1, 3, 4, 5, 6, 7, 8, 9, 10, 11, 12, 13, 14, 15, 16, 17, 18, 19, 20, 21, 22, 23, 24], []⟩)⟩ (tmpsOf Try.prog 110) kk 200 (joinIn Try.prog 110 4) :=
  JnOK.of (id := 4) (k0 := 0) (hd := ⟨4, [1, 3, 4, 5, 6, 7, 8, 9, 10, 11, 12, 13, 14, 15, 16, 17, 18, 19, 20, 21, 22, 23, 24], []⟩) (run := @R_math_bits_Len64_0 (@L_math_bits_Len64_0)) (by kernel_rfl) fun s K r hr => by
    unfold R_math_bits_Len64_0 at hr
    obtain ⟨b, hb, hr1⟩ := Option.bind_eq_some_iff.1 hr
    have e := ((Q_math_bits_Len64_0).ok s b hb).trans (q_math_bits_Len64_0 b)
    subst e
    exact (ds_math_bits_Len64_0  (@L_math_bits_Len64_2) (@L_math_bits_Len64_1) (@L_math_bits_Len64_0) b.1.1 b.1.2.2.1 K).trans hr1
def K_math_bits_Len64 {ρ : Type}  (l_2 : ∀ {ρ : Type}, (Int × Int) → ((Int) → Option ρ) → Option ρ) (l_1 : ∀ {ρ : Type}, (Int × Int) → ((Int) → Option ρ) → Option ρ) (l_0 : ∀ {ρ : Type}, (Int × Int) → ((Int) → Option ρ) → Option ρ) (x0 : Int) (k : (Int) → Option ρ) : Option ρ :=
  bif decide (x0 ≥ 4294967296) then l_0 (Int.fdiv x0 4294967296, 32) fun (d : Int) => k d else l_0 (x0, 0) fun (d : Int) => k d
def f_math_bits_Len64 (x0 : Int) : Option (Int) := K_math_bits_Len64  (@L_math_bits_Len64_2) (@L_math_bits_Len64_1) (@L_math_bits_Len64_0) x0 some
section
open Go.Ab.Rdr
def QA_math_bits_Len64 := ((pair (cons (ar (rc (cf (fi .u64 hole)))) nil) nil) : Rdr (List AV × List Blk) _)
end
def F_math_bits_Len64 (f : (Int) → Option (Int)) : Sem1 := fun args h => match (QA_math_bits_Len64).rd (args, h) with
  | some b => .opt (f b.1.1) fun (d : Int) => .leaf (Res.mk (AV.r (RV.c (CV.f (FV.i IntKind.i64 d)))) [] [])
  | none => .fail
theorem d_math_bits_Len64  (l_2 : ∀ {ρ : Type}, (Int × Int) → ((Int) → Option ρ) → Option ρ) (l_1 : ∀ {ρ : Type}, (Int × Int) → ((Int) → Option ρ) → Option ρ) (l_0 : ∀ {ρ : Type}, (Int × Int) → ((Int) → Option ρ) → Option ρ) (x0 : Int) : den Try.prog (envOf []) ⟨[], [], [], [⟨⟨4, [1, 3, 4, 5, 6, 7, 8, 9, 10, 11, 12, 13, 14, 15, 16, 17, 18, 19, 20, 21, 22, 23, 24], []⟩, ⟨4, 0, @R_math_bits_Len64_0 (@l_0)⟩⟩, ⟨⟨7, [1, 3, 4, 5, 6, 7, 8, 9, 10, 11, 12, 13, 14, 15, 16, 17, 18, 19, 20, 21, 22, 23, 24], []⟩, ⟨7, 0, @R_math_bits_Len64_1 (@l_1)⟩⟩, ⟨⟨10, [1, 3, 4, 5, 6, 7, 8, 9, 10, 11, 12, 13, 14, 15, 16, 17, 18, 19, 20, 21, 22, 23, 24], []⟩, ⟨10, 0, @R_math_bits_Len64_2 (@l_2)⟩⟩], (some ⟨0, [0, 1, 3, 4, 5, 6, 7, 8, 9, 10, 11, 12, 13, 14, 15, 16, 17, 18, 19, 20, 21, 22, 23, 24], []⟩)⟩ 200 110 [.r (.c (.f (.i .u64 x0)))] [] =
    K_math_bits_Len64  (@l_2) (@l_1) (@l_0) x0 (fun (d : Int) => some (Res.mk (AV.r (RV.c (CV.f (FV.i IntKind.i64 d)))) [] [])) := by kernel_rfl
theorem m_math_bits_Len64 {ρ σ : Type} (q : ρ → Option σ)  (l_2 : ∀ {ρ : Type}, (Int × Int) → ((Int) → Option ρ) → Option ρ) (l_1 : ∀ {ρ : Type}, (Int × Int) → ((Int) → Option ρ) → Option ρ) (l_0 : ∀ {ρ : Type}, (Int × Int) → ((Int) → Option ρ) → Option ρ) (hl_2 : ∀ {ρ σ : Type} (q : ρ → Option σ) (d : Int × Int) (k : (Int) → Option ρ), (l_2 d k).bind q = l_2 d fun x => (k x).bind q) (hl_1 : ∀ {ρ σ : Type} (q : ρ → Option σ) (d : Int × Int) (k : (Int) → Option ρ), (l_1 d k).bind q = l_1 d fun x => (k x).bind q) (hl_0 : ∀ {ρ σ : Type} (q : ρ → Option σ) (d : Int × Int) (k : (Int) → Option ρ), (l_0 d k).bind q = l_0 d fun x => (k x).bind q) (x0 : Int) (k : (Int) → Option ρ) : (K_math_bits_Len64  (@l_2) (@l_1) (@l_0) x0 k).bind q = K_math_bits_Len64  (@l_2) (@l_1) (@l_0) x0 (fun d => (k d).bind q) := by
  simp only [K_math_bits_Len64, bnd_cond, bnd_bind, bnd_none, bnd_sum, hl_2, hl_1, hl_0]
theorem qa_math_bits_Len64 : ∀ b, (QA_math_bits_Len64).em b = ([.r (.c (.f (.i .u64 b.1.1)))], []) := fun b => by kernel_rfl
theorem e_math_bits_Len64 {f : (Int) → Option (Int)} {args : List AV} {h : List Blk} {r : Res} (hr : (F_math_bits_Len64 f args h).eval = some r) : ∃ x0, args = [.r (.c (.f (.i .u64 x0)))] ∧ h = [] ∧ (f x0).bind (fun (d : Int) => some (Res.mk (AV.r (RV.c (CV.f (FV.i IntKind.i64 d)))) [] [])) = some r := by
  unfold F_math_bits_Len64 at hr
  split at hr
  · rename_i b hb
    have e := ((QA_math_bits_Len64).ok _ _ hb).trans (qa_math_bits_Len64 b)
    rw [opt_eval2] at hr
    exact ⟨b.1.1, (Prod.mk.inj e).1, (Prod.mk.inj e).2, hr⟩
  · cases hr
theorem n_math_bits_Len64 {σ : Type} (q : (Int) → Option σ) (x0 : Int) : (f_math_bits_Len64 x0).bind q = K_math_bits_Len64  (@L_math_bits_Len64_2) (@L_math_bits_Len64_1) (@L_math_bits_Len64_0) x0 q := by
  unfold f_math_bits_Len64
  exact m_math_bits_Len64 q  (@L_math_bits_Len64_2) (@L_math_bits_Len64_1) (@L_math_bits_Len64_0) (fun q d k => mL_math_bits_Len64_2 q d k) (fun q d k => mL_math_bits_Len64_1 q d k) (fun q d k => mL_math_bits_Len64_0 q d k) x0 some
theorem s_math_bits_Len64 : Sound Try.prog 110 (F_math_bits_Len64 f_math_bits_Len64) :=
  (inl_sums (l := []) (.nil _) mixed (hs := ⟨[], [], [], [⟨⟨4, [1, 3, 4, 5, 6, 7, 8, 9, 10, 11, 12, 13, 14, 15, 16, 17, 18, 19, 20, 21, 22, 23, 24], []⟩, ⟨4, 0, @R_math_bits_Len64_0 (@L_math_bits_Len64_0)⟩⟩, ⟨⟨7, [1, 3, 4, 5, 6, 7, 8, 9, 10, 11, 12, 13, 14, 15, 16, 17, 18, 19, 20, 21, 22, 23, 24], []⟩, ⟨7, 0, @R_math_bits_Len64_1 (@L_math_bits_Len64_1)⟩⟩, ⟨⟨10, [1, 3, 4, 5, 6, 7, 8, 9, 10, 11, 12, 13, 14, 15, 16, 17, 18, 19, 20, 21, 22, 23, 24], []⟩, ⟨10, 0, @R_math_bits_Len64_2 (@L_math_bits_Len64_2)⟩⟩], (some ⟨0, [0, 1, 3, 4, 5, 6, 7, 8, 9, 10, 11, 12, 13, 14, 15, 16, 17, 18, 19, 20, 21, 22, 23, 24], []⟩)⟩) (lf := 200) (Sums.by (l := []) (lj := [joinIn Try.prog 110 4, joinIn Try.prog 110 7, joinIn Try.prog 110 10]) (by kernel_rfl) trivial (by kernel_rfl) ⟨so_math_bits_Len64_0, ⟨so_math_bits_Len64_1, ⟨so_math_bits_Len64_2, trivial⟩⟩⟩) (by kernel_rfl)).by (F := F_math_bits_Len64 f_math_bits_Len64) fun args b r hr => by
  obtain ⟨x0, rfl, rfl, hr1⟩ := e_math_bits_Len64 hr
  exact inl_eval ((d_math_bits_Len64  (@L_math_bits_Len64_2) (@L_math_bits_Len64_1) (@L_math_bits_Len64_0) x0).trans ((n_math_bits_Len64 (fun (d : Int) => some (Res.mk (AV.r (RV.c (CV.f (FV.i IntKind.i64 d)))) [] [])) x0).symm.trans hr1))

def K_math_bits_LeadingZeros64 {ρ : Type} (g_math_bits_Len64 : Int → Option Int)  (x0 : Int) (k : (Int) → Option ρ) : Option ρ :=
  Option.bind (g_math_bits_Len64 x0) fun (d : Int) => k (IntKind.wrap IntKind.i64 (64 - d))
def f_math_bits_LeadingZeros64 (x0 : Int) : Option (Int) := K_math_bits_LeadingZeros64 f_math_bits_Len64  x0 some
section
open Go.Ab.Rdr
def QA_math_bits_LeadingZeros64 := ((pair (cons (ar (rc (cf (fi .u64 hole)))) nil) nil) : Rdr (List AV × List Blk) _)
end
def F_math_bits_LeadingZeros64 (f : (Int) → Option (Int)) : Sem1 := fun args h => match (QA_math_bits_LeadingZeros64).rd (args, h) with
  | some b => .opt (f b.1.1) fun (d : Int) => .leaf (Res.mk (AV.r (RV.c (CV.f (FV.i IntKind.i64 d)))) [] [])
  | none => .fail
theorem d_math_bits_LeadingZeros64 (g_math_bits_Len64 : Int → Option Int)  (x0 : Int) : den Try.prog (envOf [(110, F_math_bits_Len64 g_math_bits_Len64)]) ⟨[], [], [], [], none⟩ 200 89 [.r (.c (.f (.i .u64 x0)))] [] =
    K_math_bits_LeadingZeros64 g_math_bits_Len64  x0 (fun (d : Int) => some (Res.mk (AV.r (RV.c (CV.f (FV.i IntKind.i64 d)))) [] [])) := by kernel_rfl
theorem m_math_bits_LeadingZeros64 {ρ σ : Type} (q : ρ → Option σ) (g_math_bits_Len64 : Int → Option Int)   (x0 : Int) (k : (Int) → Option ρ) : (K_math_bits_LeadingZeros64 g_math_bits_Len64  x0 k).bind q = K_math_bits_LeadingZeros64 g_math_bits_Len64  x0 (fun d => (k d).bind q) := by
  simp only [K_math_bits_LeadingZeros64, bnd_cond, bnd_bind, bnd_none, bnd_sum]
theorem qa_math_bits_LeadingZeros64 : ∀ b, (QA_math_bits_LeadingZeros64).em b = ([.r (.c (.f (.i .u64 b.1.1)))], []) := fun b => by kernel_rfl
theorem e_math_bits_LeadingZeros64 {f : (Int) → Option (Int)} {args : List AV} {h : List Blk} {r : Res} (hr : (F_math_bits_LeadingZeros64 f args h).eval = some r) : ∃ x0, args = [.r (.c (.f (.i .u64 x0)))] ∧ h = [] ∧ (f x0).bind (fun (d : Int) => some (Res.mk (AV.r (RV.c (CV.f (FV.i IntKind.i64 d)))) [] [])) = some r := by
  unfold F_math_bits_LeadingZeros64 at hr
  split at hr
  · rename_i b hb
    have e := ((QA_math_bits_LeadingZeros64).ok _ _ hb).trans (qa_math_bits_LeadingZeros64 b)
    rw [opt_eval2] at hr
    exact ⟨b.1.1, (Prod.mk.inj e).1, (Prod.mk.inj e).2, hr⟩
  · cases hr
theorem n_math_bits_LeadingZeros64 {σ : Type} (q : (Int) → Option σ) (x0 : Int) : (f_math_bits_LeadingZeros64 x0).bind q = K_math_bits_LeadingZeros64 f_math_bits_Len64  x0 q := by
  unfold f_math_bits_LeadingZeros64
  exact m_math_bits_LeadingZeros64 q f_math_bits_Len64   x0 some
theorem s_math_bits_LeadingZeros64 : Sound Try.prog 89 (F_math_bits_LeadingZeros64 f_math_bits_LeadingZeros64) :=
  (inl_sound (l := [(110, F_math_bits_Len64 f_math_bits_Len64)]) (.cons s_math_bits_Len64 (.nil _)) mixed [] [] 200 (by kernel_rfl)).by (F := F_math_bits_LeadingZeros64 f_math_bits_LeadingZeros64) fun args b r hr => by
  obtain ⟨x0, rfl, rfl, hr1⟩ := e_math_bits_LeadingZeros64 hr
  exact inl_eval ((d_math_bits_LeadingZeros64 f_math_bits_Len64  x0).trans ((n_math_bits_LeadingZeros64 (fun (d : Int) => some (Res.mk (AV.r (RV.c (CV.f (FV.i IntKind.i64 d)))) [] [])) x0).symm.trans hr1))

def S_math_bits_Div64_0 {ρ : Type} (g_math_bits_LeadingZeros64 : Int → Option Int)  (x0 : Int) (x1 : Int) (x2 : Int) (x3 : Int) (x4 : Int) (x5 : Int) (x6 : Int) (x7 : Int) (x8 : Int) (c : (Int × Int × Int × Int × Int × Int × Int × Int × Int) → Option ρ) (x : (Int × Int × Int × Int × Int × Int × Int × Int × Int × Int × Bool × Int × Bool ⊕
  Int × Int × Int × Int × Int × Int × Int × Int × Int × Int × Bool × Int × Int × Int × Int × Bool × Bool ⊕ Int × Int × Int × Int × Int × Int × Int × Int × Int × Bool × Int × Int × Int × Bool) → Option ρ) : Option ρ :=
  bif decide (x7 ≥ 4294967296) then
    bif decide (IntKind.wrap IntKind.u64 (x8 + x2) ≥ 4294967296) then
      x
        (Sum.inl
          (x0, x1, x2, x3, x4, x5, x6, IntKind.wrap IntKind.u64 (x7 - 1), IntKind.wrap IntKind.u64 (x8 + x2), x7, decide (x7 ≥ 4294967296), x8, decide (IntKind.wrap IntKind.u64 (x8 + x2) ≥ 4294967296)))
    else c (x0, x1, x2, x3, x4, x5, x6, IntKind.wrap IntKind.u64 (x7 - 1), IntKind.wrap IntKind.u64 (x8 + x2))
  else
    bif decide (IntKind.wrap IntKind.u64 (x7 * x3) > IntKind.wrap IntKind.u64 (IntKind.wrap IntKind.u64 (4294967296 * x8) + x5)) then
      bif decide (IntKind.wrap IntKind.u64 (x8 + x2) ≥ 4294967296) then
        x
          (Sum.inr
            (Sum.inl
              (x0, x1, x2, x3, x4, x5, x6, IntKind.wrap IntKind.u64 (x7 - 1), IntKind.wrap IntKind.u64 (x8 + x2), x7, decide (x7 ≥ 4294967296), IntKind.wrap IntKind.u64 (x7 * x3), x8,
                IntKind.wrap IntKind.u64 (4294967296 * x8), IntKind.wrap IntKind.u64 (IntKind.wrap IntKind.u64 (4294967296 * x8) + x5),
                decide (IntKind.wrap IntKind.u64 (x7 * x3) > IntKind.wrap IntKind.u64 (IntKind.wrap IntKind.u64 (4294967296 * x8) + x5)), decide (IntKind.wrap IntKind.u64 (x8 + x2) ≥ 4294967296))))
      else c (x0, x1, x2, x3, x4, x5, x6, IntKind.wrap IntKind.u64 (x7 - 1), IntKind.wrap IntKind.u64 (x8 + x2))
    else
      x
        (Sum.inr
          (Sum.inr
            (x0, x1, x2, x3, x4, x5, x6, x7, x8, decide (x7 ≥ 4294967296), IntKind.wrap IntKind.u64 (x7 * x3), IntKind.wrap IntKind.u64 (4294967296 * x8),
              IntKind.wrap IntKind.u64 (IntKind.wrap IntKind.u64 (4294967296 * x8) + x5),
              decide (IntKind.wrap IntKind.u64 (x7 * x3) > IntKind.wrap IntKind.u64 (IntKind.wrap IntKind.u64 (4294967296 * x8) + x5)))))
section
open Go.Ab.Rdr
def Q_math_bits_Div64_0 := (st (cons aund (cons aund (cons (ar (rc (cf (fi .u64 hole)))) (cons aund (cons aund (cons aund (cons aund (cons aund (cons (ar (rc (cf (fi .u64 hole)))) (cons (ar (rc (cf (fi .u64 hole)))) (cons (ar (rc (cf (fi .u64 hole)))) (cons (ar (rc (cf (fi .u64 hole)))) (cons aund (cons (ar (rc (cf (fi .u64 hole)))) (cons (ar (rc (cf (fi .u64 hole)))) (cons (ar (rc (cf (fi .u64 hole)))) (cons (ar (rc (cf (fi .u64 hole)))) (cons aund (cons aund (cons aund (cons aund (cons aund (cons aund (cons aund (cons aund (cons aund (cons aund (cons aund (cons aund (cons aund (cons aund (cons aund (cons aund (cons aund (cons aund (cons aund (cons aund (cons aund (cons aund (cons aund (cons aund (cons aund (cons aund (cons aund (cons aund (cons aund (cons aund (cons aund (cons aund (cons aund (cons aund (cons aund (cons aund (cons aund (cons aund (cons aund (cons aund (cons aund (cons aund (cons aund (cons aund (cons aund (cons aund (cons aund (cons aund (cons aund (cons aund (cons aund (cons aund (cons aund (cons aund (cons aund (cons aund (cons aund (cons aund (cons aund (cons aund (cons aund (cons aund (cons aund (cons aund (cons aund (cons aund (cons aund (cons aund (cons aund (cons aund (cons aund (cons aund (cons aund (cons aund (cons aund (cons aund (cons aund (cons aund (cons aund (cons aund (cons aund (cons aund (cons aund (cons aund (cons aund (cons aund (cons aund (cons aund (cons (atup nil) (cons (atup nil) (cons (atup nil) (cons (atup nil) (cons (atup nil) (cons (atup nil) (cons (atup nil) (cons (atup nil) (cons aund (cons aund (cons aund (cons aund (cons aund (cons aund (cons aund (cons aund (cons aund (cons aund (cons aund (cons aund (cons aund (cons aund (cons aund (cons aund (cons aund (cons aund (cons aund (cons aund (cons aund (cons aund nil))))))))))))))))))))))))))))))))))))))))))))))))))))))))))))))))))))))))))))))))))))))))))))))))))))))))))))))))))))))))))))))))))))))) nil nil)
end
theorem q_math_bits_Div64_0 : ∀ b, (Q_math_bits_Div64_0).em b = St.mk
    [AV.und, AV.und, AV.r (RV.c (CV.f (FV.i IntKind.u64 b.1.2.2.1))), AV.und, AV.und, AV.und, AV.und, AV.und, AV.r (RV.c (CV.f (FV.i IntKind.u64 b.1.2.2.2.2.2.2.2.2.1))), AV.r (RV.c (CV.f (FV.i IntKind.u64 b.1.2.2.2.2.2.2.2.2.2.1))),
      AV.r (RV.c (CV.f (FV.i IntKind.u64 b.1.2.2.2.2.2.2.2.2.2.2.1))), AV.r (RV.c (CV.f (FV.i IntKind.u64 b.1.2.2.2.2.2.2.2.2.2.2.2.1))), AV.und, AV.r (RV.c (CV.f (FV.i IntKind.u64 b.1.2.2.2.2.2.2.2.2.2.2.2.2.2.1))), AV.r (RV.c (CV.f (FV.i IntKind.u64 b.1.2.2.2.2.2.2.2.2.2.2.2.2.2.2.1))),
      AV.r (RV.c (CV.f (FV.i IntKind.u64 b.1.2.2.2.2.2.2.2.2.2.2.2.2.2.2.2.1))), AV.r (RV.c (CV.f (FV.i IntKind.u64 b.1.2.2.2.2.2.2.2.2.2.2.2.2.2.2.2.2.1))), AV.und, AV.und, AV.und, AV.und, AV.und, AV.und, AV.und, AV.und, AV.und, AV.und, AV.und, AV.und, AV.und, AV.und,
      AV.und, AV.und, AV.und, AV.und, AV.und, AV.und, AV.und, AV.und, AV.und, AV.und, AV.und, AV.und, AV.und, AV.und, AV.und, AV.und, AV.und, AV.und, AV.und, AV.und, AV.und, AV.und, AV.und, AV.und,
      AV.und, AV.und, AV.und, AV.und, AV.und, AV.und, AV.und, AV.und, AV.und, AV.und, AV.und, AV.und, AV.und, AV.und, AV.und, AV.und, AV.und, AV.und, AV.und, AV.und, AV.und, AV.und, AV.und, AV.und,
      AV.und, AV.und, AV.und, AV.und, AV.und, AV.und, AV.und, AV.und, AV.und, AV.und, AV.und, AV.und, AV.und, AV.und, AV.und, AV.und, AV.und, AV.und, AV.und, AV.und, AV.und, AV.und, AV.und, AV.und,
      AV.und, AV.und, AV.tup [], AV.tup [], AV.tup [], AV.tup [], AV.tup [], AV.tup [], AV.tup [], AV.tup [], AV.und, AV.und, AV.und, AV.und, AV.und, AV.und, AV.und, AV.und, AV.und, AV.und, AV.und,
      AV.und, AV.und, AV.und, AV.und, AV.und, AV.und, AV.und, AV.und, AV.und, AV.und, AV.und]
    [] [] := fun b => by kernel_rfl
def R_math_bits_Div64_0 (l : ∀ {ρ : Type}, (Int × Int × Int × Int × Int × Int × Int × Int × Int) → ((Int × Int × Int × Int × Int × Int × Int × Int × Int × Int × Bool × Int × Bool ⊕
  Int × Int × Int × Int × Int × Int × Int × Int × Int × Int × Bool × Int × Int × Int × Int × Bool × Bool ⊕ Int × Int × Int × Int × Int × Int × Int × Int × Int × Bool × Int × Int × Int × Bool) → Option ρ) → Option ρ) {ρ : Type} (s : St) (K : AX → St → Option ρ) : Option ρ := ((Q_math_bits_Div64_0).rd s).bind fun b => l (b.1.2.2.1, b.1.2.2.2.2.2.2.2.2.1, b.1.2.2.2.2.2.2.2.2.2.1, b.1.2.2.2.2.2.2.2.2.2.2.1, b.1.2.2.2.2.2.2.2.2.2.2.2.1, b.1.2.2.2.2.2.2.2.2.2.2.2.2.2.1, b.1.2.2.2.2.2.2.2.2.2.2.2.2.2.2.1, b.1.2.2.2.2.2.2.2.2.2.2.2.2.2.2.2.1, b.1.2.2.2.2.2.2.2.2.2.2.2.2.2.2.2.2.1) (Sum.elim (fun d => K (AX.ex 0) (St.mk
  [AV.und, AV.und, AV.r (RV.c (CV.f (FV.i IntKind.u64 d.fst))), AV.und, AV.und, AV.und, AV.und, AV.und, AV.r (RV.c (CV.f (FV.i IntKind.u64 d.snd.fst))),
    AV.r (RV.c (CV.f (FV.i IntKind.u64 d.snd.snd.fst))), AV.r (RV.c (CV.f (FV.i IntKind.u64 d.snd.snd.snd.fst))), AV.r (RV.c (CV.f (FV.i IntKind.u64 d.snd.snd.snd.snd.fst))), AV.und,
    AV.r (RV.c (CV.f (FV.i IntKind.u64 d.snd.snd.snd.snd.snd.fst))), AV.r (RV.c (CV.f (FV.i IntKind.u64 d.snd.snd.snd.snd.snd.snd.fst))),
    AV.r (RV.c (CV.f (FV.i IntKind.u64 d.snd.snd.snd.snd.snd.snd.snd.fst))), AV.r (RV.c (CV.f (FV.i IntKind.u64 d.snd.snd.snd.snd.snd.snd.snd.snd.fst))), AV.und, AV.und, AV.und, AV.und, AV.und,
    AV.und, AV.und, AV.und, AV.und, AV.und, AV.und, AV.und, AV.und, AV.und, AV.und, AV.und, AV.und, AV.und, AV.und, AV.und, AV.und, AV.und, AV.und, AV.und, AV.und, AV.und, AV.und, AV.und, AV.und,
    AV.und, AV.und, AV.und, AV.und, AV.und, AV.und, AV.und, AV.und, AV.und, AV.und, AV.und, AV.und, AV.und, AV.und, AV.und, AV.und, AV.und, AV.und, AV.und, AV.und, AV.und,
    AV.r (RV.c (CV.f (FV.i IntKind.u64 d.snd.snd.snd.snd.snd.snd.snd.snd.snd.fst))), AV.r (RV.c (CV.f (FV.b d.snd.snd.snd.snd.snd.snd.snd.snd.snd.snd.fst))), AV.r (RV.c (CV.f (FV.b true))), AV.tup [],
    AV.tup [], AV.tup [], AV.tup [], AV.tup [], AV.tup [], AV.tup [], AV.tup [], AV.r (RV.c (CV.f (FV.b true))), AV.r (RV.c (CV.f (FV.i IntKind.u64 d.snd.snd.snd.snd.snd.snd.snd.snd.snd.fst))),
    AV.r (RV.c (CV.f (FV.i IntKind.u64 d.snd.snd.snd.snd.snd.snd.snd.fst))), AV.r (RV.c (CV.f (FV.i IntKind.u64 d.snd.snd.snd.snd.snd.snd.snd.snd.snd.snd.snd.fst))),
    AV.r (RV.c (CV.f (FV.i IntKind.u64 d.snd.snd.fst))), AV.r (RV.c (CV.f (FV.i IntKind.u64 d.snd.snd.snd.snd.snd.snd.snd.snd.fst))),
    AV.r (RV.c (CV.f (FV.i IntKind.u64 d.snd.snd.snd.snd.snd.snd.snd.snd.fst))), AV.r (RV.c (CV.f (FV.b d.snd.snd.snd.snd.snd.snd.snd.snd.snd.snd.snd.snd))), AV.und, AV.und, AV.und, AV.und, AV.und,
    AV.und, AV.und, AV.und, AV.und, AV.und, AV.und, AV.und, AV.und, AV.und, AV.und, AV.und, AV.und, AV.und, AV.und, AV.tup [], AV.tup [], AV.tup [], AV.tup [], AV.tup [], AV.tup [], AV.tup [],
    AV.tup [], AV.und, AV.und, AV.und, AV.und, AV.und, AV.und, AV.und, AV.und, AV.und, AV.und, AV.und, AV.und, AV.und, AV.und, AV.und, AV.und, AV.und, AV.und, AV.und, AV.und, AV.und, AV.und]
  [] [])) (Sum.elim (fun d => K (AX.ex 0) (St.mk
  [AV.und, AV.und, AV.r (RV.c (CV.f (FV.i IntKind.u64 d.fst))), AV.und, AV.und, AV.und, AV.und, AV.und, AV.r (RV.c (CV.f (FV.i IntKind.u64 d.snd.fst))),
    AV.r (RV.c (CV.f (FV.i IntKind.u64 d.snd.snd.fst))), AV.r (RV.c (CV.f (FV.i IntKind.u64 d.snd.snd.snd.fst))), AV.r (RV.c (CV.f (FV.i IntKind.u64 d.snd.snd.snd.snd.fst))), AV.und,
    AV.r (RV.c (CV.f (FV.i IntKind.u64 d.snd.snd.snd.snd.snd.fst))), AV.r (RV.c (CV.f (FV.i IntKind.u64 d.snd.snd.snd.snd.snd.snd.fst))),
    AV.r (RV.c (CV.f (FV.i IntKind.u64 d.snd.snd.snd.snd.snd.snd.snd.fst))), AV.r (RV.c (CV.f (FV.i IntKind.u64 d.snd.snd.snd.snd.snd.snd.snd.snd.fst))), AV.und, AV.und, AV.und, AV.und, AV.und,
    AV.und, AV.und, AV.und, AV.und, AV.und, AV.und, AV.und, AV.und, AV.und, AV.und, AV.und, AV.und, AV.und, AV.und, AV.und, AV.und, AV.und, AV.und, AV.und, AV.und, AV.und, AV.und, AV.und, AV.und,
    AV.und, AV.und, AV.und, AV.und, AV.und, AV.und, AV.und, AV.und, AV.und, AV.und, AV.und, AV.und, AV.und, AV.und, AV.und, AV.und, AV.und, AV.und, AV.und, AV.und, AV.und,
    AV.r (RV.c (CV.f (FV.i IntKind.u64 d.snd.snd.snd.snd.snd.snd.snd.snd.snd.fst))), AV.r (RV.c (CV.f (FV.b d.snd.snd.snd.snd.snd.snd.snd.snd.snd.snd.fst))), AV.r (RV.c (CV.f (FV.b false))),
    AV.r (RV.c (CV.f (FV.i IntKind.u64 d.snd.snd.snd.snd.snd.snd.snd.snd.snd.fst))), AV.r (RV.c (CV.f (FV.i IntKind.u64 d.snd.snd.snd.fst))),
    AV.r (RV.c (CV.f (FV.i IntKind.u64 d.snd.snd.snd.snd.snd.snd.snd.snd.snd.snd.snd.fst))), AV.r (RV.c (CV.f (FV.i IntKind.u64 d.snd.snd.snd.snd.snd.snd.snd.snd.snd.snd.snd.snd.fst))),
    AV.r (RV.c (CV.f (FV.i IntKind.u64 d.snd.snd.snd.snd.snd.snd.snd.snd.snd.snd.snd.snd.snd.fst))), AV.r (RV.c (CV.f (FV.i IntKind.u64 d.snd.snd.snd.snd.snd.fst))),
    AV.r (RV.c (CV.f (FV.i IntKind.u64 d.snd.snd.snd.snd.snd.snd.snd.snd.snd.snd.snd.snd.snd.snd.fst))), AV.r (RV.c (CV.f (FV.b d.snd.snd.snd.snd.snd.snd.snd.snd.snd.snd.snd.snd.snd.snd.snd.fst))),
    AV.r (RV.c (CV.f (FV.b d.snd.snd.snd.snd.snd.snd.snd.snd.snd.snd.snd.snd.snd.snd.snd.fst))), AV.r (RV.c (CV.f (FV.i IntKind.u64 d.snd.snd.snd.snd.snd.snd.snd.snd.snd.fst))),
    AV.r (RV.c (CV.f (FV.i IntKind.u64 d.snd.snd.snd.snd.snd.snd.snd.fst))), AV.r (RV.c (CV.f (FV.i IntKind.u64 d.snd.snd.snd.snd.snd.snd.snd.snd.snd.snd.snd.snd.fst))),
    AV.r (RV.c (CV.f (FV.i IntKind.u64 d.snd.snd.fst))), AV.r (RV.c (CV.f (FV.i IntKind.u64 d.snd.snd.snd.snd.snd.snd.snd.snd.fst))),
    AV.r (RV.c (CV.f (FV.i IntKind.u64 d.snd.snd.snd.snd.snd.snd.snd.snd.fst))), AV.r (RV.c (CV.f (FV.b d.snd.snd.snd.snd.snd.snd.snd.snd.snd.snd.snd.snd.snd.snd.snd.snd))), AV.und, AV.und, AV.und,
    AV.und, AV.und, AV.und, AV.und, AV.und, AV.und, AV.und, AV.und, AV.und, AV.und, AV.und, AV.und, AV.und, AV.und, AV.und, AV.und, AV.tup [], AV.tup [], AV.tup [], AV.tup [], AV.tup [], AV.tup [],
    AV.tup [], AV.tup [], AV.und, AV.und, AV.und, AV.und, AV.und, AV.und, AV.und, AV.und, AV.und, AV.und, AV.und, AV.und, AV.und, AV.und, AV.und, AV.und, AV.und, AV.und, AV.und, AV.und, AV.und,
    AV.und]
  [] [])) (fun d => K (AX.ex 0) (St.mk
  [AV.und, AV.und, AV.r (RV.c (CV.f (FV.i IntKind.u64 d.fst))), AV.und, AV.und, AV.und, AV.und, AV.und, AV.r (RV.c (CV.f (FV.i IntKind.u64 d.snd.fst))),
    AV.r (RV.c (CV.f (FV.i IntKind.u64 d.snd.snd.fst))), AV.r (RV.c (CV.f (FV.i IntKind.u64 d.snd.snd.snd.fst))), AV.r (RV.c (CV.f (FV.i IntKind.u64 d.snd.snd.snd.snd.fst))), AV.und,
    AV.r (RV.c (CV.f (FV.i IntKind.u64 d.snd.snd.snd.snd.snd.fst))), AV.r (RV.c (CV.f (FV.i IntKind.u64 d.snd.snd.snd.snd.snd.snd.fst))),
    AV.r (RV.c (CV.f (FV.i IntKind.u64 d.snd.snd.snd.snd.snd.snd.snd.fst))), AV.r (RV.c (CV.f (FV.i IntKind.u64 d.snd.snd.snd.snd.snd.snd.snd.snd.fst))), AV.und, AV.und, AV.und, AV.und, AV.und,
    AV.und, AV.und, AV.und, AV.und, AV.und, AV.und, AV.und, AV.und, AV.und, AV.und, AV.und, AV.und, AV.und, AV.und, AV.und, AV.und, AV.und, AV.und, AV.und, AV.und, AV.und, AV.und, AV.und, AV.und,
    AV.und, AV.und, AV.und, AV.und, AV.und, AV.und, AV.und, AV.und, AV.und, AV.und, AV.und, AV.und, AV.und, AV.und, AV.und, AV.und, AV.und, AV.und, AV.und, AV.und, AV.und,
    AV.r (RV.c (CV.f (FV.i IntKind.u64 d.snd.snd.snd.snd.snd.snd.snd.fst))), AV.r (RV.c (CV.f (FV.b d.snd.snd.snd.snd.snd.snd.snd.snd.snd.fst))), AV.r (RV.c (CV.f (FV.b false))),
    AV.r (RV.c (CV.f (FV.i IntKind.u64 d.snd.snd.snd.snd.snd.snd.snd.fst))), AV.r (RV.c (CV.f (FV.i IntKind.u64 d.snd.snd.snd.fst))),
    AV.r (RV.c (CV.f (FV.i IntKind.u64 d.snd.snd.snd.snd.snd.snd.snd.snd.snd.snd.fst))), AV.r (RV.c (CV.f (FV.i IntKind.u64 d.snd.snd.snd.snd.snd.snd.snd.snd.fst))),
    AV.r (RV.c (CV.f (FV.i IntKind.u64 d.snd.snd.snd.snd.snd.snd.snd.snd.snd.snd.snd.fst))), AV.r (RV.c (CV.f (FV.i IntKind.u64 d.snd.snd.snd.snd.snd.fst))),
    AV.r (RV.c (CV.f (FV.i IntKind.u64 d.snd.snd.snd.snd.snd.snd.snd.snd.snd.snd.snd.snd.fst))), AV.r (RV.c (CV.f (FV.b d.snd.snd.snd.snd.snd.snd.snd.snd.snd.snd.snd.snd.snd))),
    AV.r (RV.c (CV.f (FV.b d.snd.snd.snd.snd.snd.snd.snd.snd.snd.snd.snd.snd.snd))), AV.und, AV.und, AV.und, AV.und, AV.und, AV.und, AV.und, AV.und, AV.und, AV.und, AV.und, AV.und, AV.und, AV.und,
    AV.und, AV.und, AV.und, AV.und, AV.und, AV.und, AV.und, AV.und, AV.und, AV.und, AV.und, AV.und, AV.tup [], AV.tup [], AV.tup [], AV.tup [], AV.tup [], AV.tup [], AV.tup [], AV.tup [], AV.und,
    AV.und, AV.und, AV.und, AV.und, AV.und, AV.und, AV.und, AV.und, AV.und, AV.und, AV.und, AV.und, AV.und, AV.und, AV.und, AV.und, AV.und, AV.und, AV.und, AV.und, AV.und]
  [] []))))
theorem ms_math_bits_Div64_0 {ρ σ : Type} (g_math_bits_LeadingZeros64 : Int → Option Int)   (q : ρ → Option σ) (x0 : Int) (x1 : Int) (x2 : Int) (x3 : Int) (x4 : Int) (x5 : Int) (x6 : Int) (x7 : Int) (x8 : Int) (c : (Int × Int × Int × Int × Int × Int × Int × Int × Int) → Option ρ) (x : (Int × Int × Int × Int × Int × Int × Int × Int × Int × Int × Bool × Int × Bool ⊕
  Int × Int × Int × Int × Int × Int × Int × Int × Int × Int × Bool × Int × Int × Int × Int × Bool × Bool ⊕ Int × Int × Int × Int × Int × Int × Int × Int × Int × Bool × Int × Int × Int × Bool) → Option ρ) : (S_math_bits_Div64_0 g_math_bits_LeadingZeros64  x0 x1 x2 x3 x4 x5 x6 x7 x8 c x).bind q = S_math_bits_Div64_0 g_math_bits_LeadingZeros64  x0 x1 x2 x3 x4 x5 x6 x7 x8 (fun d => (c d).bind q) (fun d => (x d).bind q) := by
  simp only [S_math_bits_Div64_0, bnd_cond, bnd_bind, bnd_none, bnd_sum]
def L_math_bits_Div64_0 {ρ : Type} (d : Int × Int × Int × Int × Int × Int × Int × Int × Int) (k : (Int × Int × Int × Int × Int × Int × Int × Int × Int × Int × Bool × Int × Bool ⊕
  Int × Int × Int × Int × Int × Int × Int × Int × Int × Int × Bool × Int × Int × Int × Int × Bool × Bool ⊕ Int × Int × Int × Int × Int × Int × Int × Int × Int × Bool × Int × Int × Int × Bool) → Option ρ) : Option ρ := loopK (fun d c x => S_math_bits_Div64_0 f_math_bits_LeadingZeros64  d.1 d.2.1 d.2.2.1 d.2.2.2.1 d.2.2.2.2.1 d.2.2.2.2.2.1 d.2.2.2.2.2.2.1 d.2.2.2.2.2.2.2.1 d.2.2.2.2.2.2.2.2 c x) 200 d k
theorem mL_math_bits_Div64_0 {ρ σ : Type} (q : ρ → Option σ) (d : Int × Int × Int × Int × Int × Int × Int × Int × Int) (k : (Int × Int × Int × Int × Int × Int × Int × Int × Int × Int × Bool × Int × Bool ⊕
  Int × Int × Int × Int × Int × Int × Int × Int × Int × Int × Bool × Int × Int × Int × Int × Bool × Bool ⊕ Int × Int × Int × Int × Int × Int × Int × Int × Int × Bool × Int × Int × Int × Bool) → Option ρ) : (L_math_bits_Div64_0 d k).bind q = L_math_bits_Div64_0 d fun x => (k x).bind q :=
  loopK_bind q (fun d c x => ms_math_bits_Div64_0 f_math_bits_LeadingZeros64   q d.1 d.2.1 d.2.2.1 d.2.2.2.1 d.2.2.2.2.1 d.2.2.2.2.2.1 d.2.2.2.2.2.2.1 d.2.2.2.2.2.2.2.1 d.2.2.2.2.2.2.2.2 c x) k _ d
def S_math_bits_Div64_1 {ρ : Type} (g_math_bits_LeadingZeros64 : Int → Option Int)  (x0 : Int) (x1 : Int) (x2 : Int) (x3 : Int) (x4 : Int) (x5 : Int) (x6 : Int) (x7 : Int) (x8 : Int) (c : (Int × Int × Int × Int × Int × Int × Int × Int × Int) → Option ρ) (x : (Int × Int × Int × Int × Int × Int × Int × Int × Int × Int × Bool × Int × Bool ⊕
  Int × Int × Int × Int × Int × Int × Int × Int × Int × Int × Bool × Int × Int × Int × Int × Bool × Bool ⊕ Int × Int × Int × Int × Int × Int × Int × Int × Int × Bool × Int × Int × Int × Bool) → Option ρ) : Option ρ :=
  bif decide (x8 ≥ 4294967296) then
    bif decide (IntKind.wrap IntKind.u64 (x6 + x2) ≥ 4294967296) then
      x
        (Sum.inl
          (x0, x1, x2, x3, x4, x5, IntKind.wrap IntKind.u64 (x6 + x2), x7, IntKind.wrap IntKind.u64 (x8 - 1), x8, decide (x8 ≥ 4294967296), x6, decide (IntKind.wrap IntKind.u64 (x6 + x2) ≥ 4294967296)))
    else c (x0, x1, x2, x3, x4, x5, IntKind.wrap IntKind.u64 (x6 + x2), x7, IntKind.wrap IntKind.u64 (x8 - 1))
  else
    bif decide (IntKind.wrap IntKind.u64 (x8 * x3) > IntKind.wrap IntKind.u64 (IntKind.wrap IntKind.u64 (4294967296 * x6) + x4)) then
      bif decide (IntKind.wrap IntKind.u64 (x6 + x2) ≥ 4294967296) then
        x
          (Sum.inr
            (Sum.inl
              (x0, x1, x2, x3, x4, x5, IntKind.wrap IntKind.u64 (x6 + x2), x7, IntKind.wrap IntKind.u64 (x8 - 1), x8, decide (x8 ≥ 4294967296), IntKind.wrap IntKind.u64 (x8 * x3), x6,
                IntKind.wrap IntKind.u64 (4294967296 * x6), IntKind.wrap IntKind.u64 (IntKind.wrap IntKind.u64 (4294967296 * x6) + x4),
                decide (IntKind.wrap IntKind.u64 (x8 * x3) > IntKind.wrap IntKind.u64 (IntKind.wrap IntKind.u64 (4294967296 * x6) + x4)), decide (IntKind.wrap IntKind.u64 (x6 + x2) ≥ 4294967296))))
      else c (x0, x1, x2, x3, x4, x5, IntKind.wrap IntKind.u64 (x6 + x2), x7, IntKind.wrap IntKind.u64 (x8 - 1))
    else
      x
        (Sum.inr
          (Sum.inr
            (x0, x1, x2, x3, x4, x5, x6, x7, x8, decide (x8 ≥ 4294967296), IntKind.wrap IntKind.u64 (x8 * x3), IntKind.wrap IntKind.u64 (4294967296 * x6),
              IntKind.wrap IntKind.u64 (IntKind.wrap IntKind.u64 (4294967296 * x6) + x4),
              decide (IntKind.wrap IntKind.u64 (x8 * x3) > IntKind.wrap IntKind.u64 (IntKind.wrap IntKind.u64 (4294967296 * x6) + x4)))))
section
open Go.Ab.Rdr
def Q_math_bits_Div64_1 := (st (cons aund (cons aund (cons (ar (rc (cf (fi .u64 hole)))) (cons aund (cons aund (cons aund (cons aund (cons aund (cons (ar (rc (cf (fi .u64 hole)))) (cons (ar (rc (cf (fi .u64 hole)))) (cons (ar (rc (cf (fi .u64 hole)))) (cons aund (cons aund (cons aund (cons (ar (rc (cf (fi .u64 hole)))) (cons (ar (rc (cf (fi .u64 hole)))) (cons (ar (rc (cf (fi .u64 hole)))) (cons (ar (rc (cf (fi .u64 hole)))) (cons (ar (rc (cf (fi .u64 hole)))) (cons aund (cons aund (cons aund (cons aund (cons aund (cons aund (cons aund (cons aund (cons aund (cons aund (cons aund (cons aund (cons aund (cons aund (cons aund (cons aund (cons aund (cons aund (cons aund (cons aund (cons aund (cons aund (cons aund (cons aund (cons aund (cons aund (cons aund (cons aund (cons aund (cons aund (cons aund (cons aund (cons aund (cons aund (cons aund (cons aund (cons aund (cons aund (cons aund (cons aund (cons aund (cons aund (cons aund (cons aund (cons aund (cons aund (cons aund (cons aund (cons aund (cons aund (cons aund (cons aund (cons aund (cons aund (cons aund (cons aund (cons aund (cons aund (cons aund (cons aund (cons aund (cons aund (cons aund (cons aund (cons aund (cons aund (cons aund (cons aund (cons aund (cons aund (cons aund (cons aund (cons aund (cons aund (cons aund (cons aund (cons aund (cons aund (cons aund (cons aund (cons aund (cons aund (cons aund (cons aund (cons aund (cons aund (cons aund (cons aund (cons aund (cons aund (cons aund (cons aund (cons aund (cons aund (cons aund (cons aund (cons aund (cons aund (cons aund (cons aund (cons aund (cons aund (cons aund (cons aund (cons aund (cons aund (cons aund (cons aund (cons aund (cons aund (cons aund (cons aund (cons aund (cons aund (cons aund (cons aund nil))))))))))))))))))))))))))))))))))))))))))))))))))))))))))))))))))))))))))))))))))))))))))))))))))))))))))))))))))))))))))))))))))))))) nil nil)
end
theorem q_math_bits_Div64_1 : ∀ b, (Q_math_bits_Div64_1).em b = St.mk
    [AV.und, AV.und, AV.r (RV.c (CV.f (FV.i IntKind.u64 b.1.2.2.1))), AV.und, AV.und, AV.und, AV.und, AV.und, AV.r (RV.c (CV.f (FV.i IntKind.u64 b.1.2.2.2.2.2.2.2.2.1))), AV.r (RV.c (CV.f (FV.i IntKind.u64 b.1.2.2.2.2.2.2.2.2.2.1))),
      AV.r (RV.c (CV.f (FV.i IntKind.u64 b.1.2.2.2.2.2.2.2.2.2.2.1))), AV.und, AV.und, AV.und, AV.r (RV.c (CV.f (FV.i IntKind.u64 b.1.2.2.2.2.2.2.2.2.2.2.2.2.2.2.1))), AV.r (RV.c (CV.f (FV.i IntKind.u64 b.1.2.2.2.2.2.2.2.2.2.2.2.2.2.2.2.1))), AV.r (RV.c (CV.f (FV.i IntKind.u64 b.1.2.2.2.2.2.2.2.2.2.2.2.2.2.2.2.2.1))),
      AV.r (RV.c (CV.f (FV.i IntKind.u64 b.1.2.2.2.2.2.2.2.2.2.2.2.2.2.2.2.2.2.1))), AV.r (RV.c (CV.f (FV.i IntKind.u64 b.1.2.2.2.2.2.2.2.2.2.2.2.2.2.2.2.2.2.2.1))), AV.und, AV.und, AV.und, AV.und, AV.und, AV.und, AV.und, AV.und, AV.und, AV.und, AV.und, AV.und, AV.und, AV.und,
      AV.und, AV.und, AV.und, AV.und, AV.und, AV.und, AV.und, AV.und, AV.und, AV.und, AV.und, AV.und, AV.und, AV.und, AV.und, AV.und, AV.und, AV.und, AV.und, AV.und, AV.und, AV.und, AV.und, AV.und,
      AV.und, AV.und, AV.und, AV.und, AV.und, AV.und, AV.und, AV.und, AV.und, AV.und, AV.und, AV.und, AV.und, AV.und, AV.und, AV.und, AV.und, AV.und, AV.und, AV.und, AV.und, AV.und, AV.und, AV.und,
      AV.und, AV.und, AV.und, AV.und, AV.und, AV.und, AV.und, AV.und, AV.und, AV.und, AV.und, AV.und, AV.und, AV.und, AV.und, AV.und, AV.und, AV.und, AV.und, AV.und, AV.und, AV.und, AV.und, AV.und,
      AV.und, AV.und, AV.und, AV.und, AV.und, AV.und, AV.und, AV.und, AV.und, AV.und, AV.und, AV.und, AV.und, AV.und, AV.und, AV.und, AV.und, AV.und, AV.und, AV.und, AV.und, AV.und, AV.und, AV.und,
      AV.und, AV.und, AV.und, AV.und, AV.und, AV.und]
    [] [] := fun b => by kernel_rfl
def R_math_bits_Div64_1 (l : ∀ {ρ : Type}, (Int × Int × Int × Int × Int × Int × Int × Int × Int) → ((Int × Int × Int × Int × Int × Int × Int × Int × Int × Int × Bool × Int × Bool ⊕
  Int × Int × Int × Int × Int × Int × Int × Int × Int × Int × Bool × Int × Int × Int × Int × Bool × Bool ⊕ Int × Int × Int × Int × Int × Int × Int × Int × Int × Bool × Int × Int × Int × Bool) → Option ρ) → Option ρ) {ρ : Type} (s : St) (K : AX → St → Option ρ) : Option ρ := ((Q_math_bits_Div64_1).rd s).bind fun b => l (b.1.2.2.1, b.1.2.2.2.2.2.2.2.2.1, b.1.2.2.2.2.2.2.2.2.2.1, b.1.2.2.2.2.2.2.2.2.2.2.1, b.1.2.2.2.2.2.2.2.2.2.2.2.2.2.2.1, b.1.2.2.2.2.2.2.2.2.2.2.2.2.2.2.2.1, b.1.2.2.2.2.2.2.2.2.2.2.2.2.2.2.2.2.1, b.1.2.2.2.2.2.2.2.2.2.2.2.2.2.2.2.2.2.1, b.1.2.2.2.2.2.2.2.2.2.2.2.2.2.2.2.2.2.2.1) (Sum.elim (fun d => K (AX.ex 2) (St.mk
  [AV.und, AV.und, AV.r (RV.c (CV.f (FV.i IntKind.u64 d.fst))), AV.und, AV.und, AV.und, AV.und, AV.und, AV.r (RV.c (CV.f (FV.i IntKind.u64 d.snd.fst))),
    AV.r (RV.c (CV.f (FV.i IntKind.u64 d.snd.snd.fst))), AV.r (RV.c (CV.f (FV.i IntKind.u64 d.snd.snd.snd.fst))), AV.und, AV.und, AV.und, AV.r (RV.c (CV.f (FV.i IntKind.u64 d.snd.snd.snd.snd.fst))),
    AV.r (RV.c (CV.f (FV.i IntKind.u64 d.snd.snd.snd.snd.snd.fst))), AV.r (RV.c (CV.f (FV.i IntKind.u64 d.snd.snd.snd.snd.snd.snd.fst))),
    AV.r (RV.c (CV.f (FV.i IntKind.u64 d.snd.snd.snd.snd.snd.snd.snd.fst))), AV.r (RV.c (CV.f (FV.i IntKind.u64 d.snd.snd.snd.snd.snd.snd.snd.snd.fst))), AV.und, AV.und, AV.und, AV.und, AV.und,
    AV.und, AV.und, AV.und, AV.und, AV.und, AV.und, AV.und, AV.und, AV.und, AV.und, AV.und, AV.und, AV.und, AV.und, AV.und, AV.und, AV.und, AV.und, AV.und, AV.und, AV.und, AV.und, AV.und, AV.und,
    AV.und, AV.und, AV.und, AV.und, AV.und, AV.und, AV.und, AV.und, AV.und, AV.und, AV.und, AV.und, AV.und, AV.und, AV.und, AV.und, AV.und, AV.und, AV.und, AV.und, AV.und, AV.und, AV.und, AV.und,
    AV.und, AV.und, AV.und, AV.und, AV.und, AV.und, AV.und, AV.und, AV.und, AV.und, AV.und, AV.und, AV.und, AV.und, AV.und, AV.und, AV.und, AV.und, AV.und, AV.und, AV.und, AV.und, AV.und, AV.und,
    AV.und, AV.und, AV.und, AV.und, AV.und, AV.und, AV.r (RV.c (CV.f (FV.i IntKind.u64 d.snd.snd.snd.snd.snd.snd.snd.snd.snd.fst))),
    AV.r (RV.c (CV.f (FV.b d.snd.snd.snd.snd.snd.snd.snd.snd.snd.snd.fst))), AV.r (RV.c (CV.f (FV.b true))), AV.tup [], AV.tup [], AV.tup [], AV.tup [], AV.tup [], AV.tup [], AV.tup [], AV.tup [],
    AV.r (RV.c (CV.f (FV.b true))), AV.r (RV.c (CV.f (FV.i IntKind.u64 d.snd.snd.snd.snd.snd.snd.snd.snd.snd.fst))), AV.r (RV.c (CV.f (FV.i IntKind.u64 d.snd.snd.snd.snd.snd.snd.snd.snd.fst))),
    AV.r (RV.c (CV.f (FV.i IntKind.u64 d.snd.snd.snd.snd.snd.snd.snd.snd.snd.snd.snd.fst))), AV.r (RV.c (CV.f (FV.i IntKind.u64 d.snd.snd.fst))),
    AV.r (RV.c (CV.f (FV.i IntKind.u64 d.snd.snd.snd.snd.snd.snd.fst))), AV.r (RV.c (CV.f (FV.i IntKind.u64 d.snd.snd.snd.snd.snd.snd.fst))),
    AV.r (RV.c (CV.f (FV.b d.snd.snd.snd.snd.snd.snd.snd.snd.snd.snd.snd.snd))), AV.und, AV.und, AV.und, AV.und, AV.und, AV.und, AV.und, AV.und, AV.und, AV.und, AV.und, AV.und, AV.und, AV.und]
  [] [])) (Sum.elim (fun d => K (AX.ex 2) (St.mk
  [AV.und, AV.und, AV.r (RV.c (CV.f (FV.i IntKind.u64 d.fst))), AV.und, AV.und, AV.und, AV.und, AV.und, AV.r (RV.c (CV.f (FV.i IntKind.u64 d.snd.fst))),
    AV.r (RV.c (CV.f (FV.i IntKind.u64 d.snd.snd.fst))), AV.r (RV.c (CV.f (FV.i IntKind.u64 d.snd.snd.snd.fst))), AV.und, AV.und, AV.und, AV.r (RV.c (CV.f (FV.i IntKind.u64 d.snd.snd.snd.snd.fst))),
    AV.r (RV.c (CV.f (FV.i IntKind.u64 d.snd.snd.snd.snd.snd.fst))), AV.r (RV.c (CV.f (FV.i IntKind.u64 d.snd.snd.snd.snd.snd.snd.fst))),
    AV.r (RV.c (CV.f (FV.i IntKind.u64 d.snd.snd.snd.snd.snd.snd.snd.fst))), AV.r (RV.c (CV.f (FV.i IntKind.u64 d.snd.snd.snd.snd.snd.snd.snd.snd.fst))), AV.und, AV.und, AV.und, AV.und, AV.und,
    AV.und, AV.und, AV.und, AV.und, AV.und, AV.und, AV.und, AV.und, AV.und, AV.und, AV.und, AV.und, AV.und, AV.und, AV.und, AV.und, AV.und, AV.und, AV.und, AV.und, AV.und, AV.und, AV.und, AV.und,
    AV.und, AV.und, AV.und, AV.und, AV.und, AV.und, AV.und, AV.und, AV.und, AV.und, AV.und, AV.und, AV.und, AV.und, AV.und, AV.und, AV.und, AV.und, AV.und, AV.und, AV.und, AV.und, AV.und, AV.und,
    AV.und, AV.und, AV.und, AV.und, AV.und, AV.und, AV.und, AV.und, AV.und, AV.und, AV.und, AV.und, AV.und, AV.und, AV.und, AV.und, AV.und, AV.und, AV.und, AV.und, AV.und, AV.und, AV.und, AV.und,
    AV.und, AV.und, AV.und, AV.und, AV.und, AV.und, AV.r (RV.c (CV.f (FV.i IntKind.u64 d.snd.snd.snd.snd.snd.snd.snd.snd.snd.fst))),
    AV.r (RV.c (CV.f (FV.b d.snd.snd.snd.snd.snd.snd.snd.snd.snd.snd.fst))), AV.r (RV.c (CV.f (FV.b false))), AV.r (RV.c (CV.f (FV.i IntKind.u64 d.snd.snd.snd.snd.snd.snd.snd.snd.snd.fst))),
    AV.r (RV.c (CV.f (FV.i IntKind.u64 d.snd.snd.snd.fst))), AV.r (RV.c (CV.f (FV.i IntKind.u64 d.snd.snd.snd.snd.snd.snd.snd.snd.snd.snd.snd.fst))),
    AV.r (RV.c (CV.f (FV.i IntKind.u64 d.snd.snd.snd.snd.snd.snd.snd.snd.snd.snd.snd.snd.fst))), AV.r (RV.c (CV.f (FV.i IntKind.u64 d.snd.snd.snd.snd.snd.snd.snd.snd.snd.snd.snd.snd.snd.fst))),
    AV.r (RV.c (CV.f (FV.i IntKind.u64 d.snd.snd.snd.snd.fst))), AV.r (RV.c (CV.f (FV.i IntKind.u64 d.snd.snd.snd.snd.snd.snd.snd.snd.snd.snd.snd.snd.snd.snd.fst))),
    AV.r (RV.c (CV.f (FV.b d.snd.snd.snd.snd.snd.snd.snd.snd.snd.snd.snd.snd.snd.snd.snd.fst))), AV.r (RV.c (CV.f (FV.b d.snd.snd.snd.snd.snd.snd.snd.snd.snd.snd.snd.snd.snd.snd.snd.fst))),
    AV.r (RV.c (CV.f (FV.i IntKind.u64 d.snd.snd.snd.snd.snd.snd.snd.snd.snd.fst))), AV.r (RV.c (CV.f (FV.i IntKind.u64 d.snd.snd.snd.snd.snd.snd.snd.snd.fst))),
    AV.r (RV.c (CV.f (FV.i IntKind.u64 d.snd.snd.snd.snd.snd.snd.snd.snd.snd.snd.snd.snd.fst))), AV.r (RV.c (CV.f (FV.i IntKind.u64 d.snd.snd.fst))),
    AV.r (RV.c (CV.f (FV.i IntKind.u64 d.snd.snd.snd.snd.snd.snd.fst))), AV.r (RV.c (CV.f (FV.i IntKind.u64 d.snd.snd.snd.snd.snd.snd.fst))),
    AV.r (RV.c (CV.f (FV.b d.snd.snd.snd.snd.snd.snd.snd.snd.snd.snd.snd.snd.snd.snd.snd.snd))), AV.und, AV.und, AV.und, AV.und, AV.und, AV.und, AV.und, AV.und, AV.und, AV.und, AV.und, AV.und, AV.und,
    AV.und]
  [] [])) (fun d => K (AX.ex 2) (St.mk
  [AV.und, AV.und, AV.r (RV.c (CV.f (FV.i IntKind.u64 d.fst))), AV.und, AV.und, AV.und, AV.und, AV.und, AV.r (RV.c (CV.f (FV.i IntKind.u64 d.snd.fst))),
    AV.r (RV.c (CV.f (FV.i IntKind.u64 d.snd.snd.fst))), AV.r (RV.c (CV.f (FV.i IntKind.u64 d.snd.snd.snd.fst))), AV.und, AV.und, AV.und, AV.r (RV.c (CV.f (FV.i IntKind.u64 d.snd.snd.snd.snd.fst))),
    AV.r (RV.c (CV.f (FV.i IntKind.u64 d.snd.snd.snd.snd.snd.fst))), AV.r (RV.c (CV.f (FV.i IntKind.u64 d.snd.snd.snd.snd.snd.snd.fst))),
    AV.r (RV.c (CV.f (FV.i IntKind.u64 d.snd.snd.snd.snd.snd.snd.snd.fst))), AV.r (RV.c (CV.f (FV.i IntKind.u64 d.snd.snd.snd.snd.snd.snd.snd.snd.fst))), AV.und, AV.und, AV.und, AV.und, AV.und,
    AV.und, AV.und, AV.und, AV.und, AV.und, AV.und, AV.und, AV.und, AV.und, AV.und, AV.und, AV.und, AV.und, AV.und, AV.und, AV.und, AV.und, AV.und, AV.und, AV.und, AV.und, AV.und, AV.und, AV.und,
    AV.und, AV.und, AV.und, AV.und, AV.und, AV.und, AV.und, AV.und, AV.und, AV.und, AV.und, AV.und, AV.und, AV.und, AV.und, AV.und, AV.und, AV.und, AV.und, AV.und, AV.und, AV.und, AV.und, AV.und,
    AV.und, AV.und, AV.und, AV.und, AV.und, AV.und, AV.und, AV.und, AV.und, AV.und, AV.und, AV.und, AV.und, AV.und, AV.und, AV.und, AV.und, AV.und, AV.und, AV.und, AV.und, AV.und, AV.und, AV.und,
    AV.und, AV.und, AV.und, AV.und, AV.und, AV.und, AV.r (RV.c (CV.f (FV.i IntKind.u64 d.snd.snd.snd.snd.snd.snd.snd.snd.fst))), AV.r (RV.c (CV.f (FV.b d.snd.snd.snd.snd.snd.snd.snd.snd.snd.fst))),
    AV.r (RV.c (CV.f (FV.b false))), AV.r (RV.c (CV.f (FV.i IntKind.u64 d.snd.snd.snd.snd.snd.snd.snd.snd.fst))), AV.r (RV.c (CV.f (FV.i IntKind.u64 d.snd.snd.snd.fst))),
    AV.r (RV.c (CV.f (FV.i IntKind.u64 d.snd.snd.snd.snd.snd.snd.snd.snd.snd.snd.fst))), AV.r (RV.c (CV.f (FV.i IntKind.u64 d.snd.snd.snd.snd.snd.snd.fst))),
    AV.r (RV.c (CV.f (FV.i IntKind.u64 d.snd.snd.snd.snd.snd.snd.snd.snd.snd.snd.snd.fst))), AV.r (RV.c (CV.f (FV.i IntKind.u64 d.snd.snd.snd.snd.fst))),
    AV.r (RV.c (CV.f (FV.i IntKind.u64 d.snd.snd.snd.snd.snd.snd.snd.snd.snd.snd.snd.snd.fst))), AV.r (RV.c (CV.f (FV.b d.snd.snd.snd.snd.snd.snd.snd.snd.snd.snd.snd.snd.snd))),
    AV.r (RV.c (CV.f (FV.b d.snd.snd.snd.snd.snd.snd.snd.snd.snd.snd.snd.snd.snd))), AV.und, AV.und, AV.und, AV.und, AV.und, AV.und, AV.und, AV.und, AV.und, AV.und, AV.und, AV.und, AV.und, AV.und,
    AV.und, AV.und, AV.und, AV.und, AV.und, AV.und, AV.und]
  [] []))))
theorem ms_math_bits_Div64_1 {ρ σ : Type} (g_math_bits_LeadingZeros64 : Int → Option Int)   (q : ρ → Option σ) (x0 : Int) (x1 : Int) (x2 : Int) (x3 : Int) (x4 : Int) (x5 : Int) (x6 : Int) (x7 : Int) (x8 : Int) (c : (Int × Int × Int × Int × Int × Int × Int × Int × Int) → Option ρ) (x : (Int × Int × Int × Int × Int × Int × Int × Int × Int × Int × Bool × Int × Bool ⊕
  Int × Int × Int × Int × Int × Int × Int × Int × Int × Int × Bool × Int × Int × Int × Int × Bool × Bool ⊕ Int × Int × Int × Int × Int × Int × Int × Int × Int × Bool × Int × Int × Int × Bool) → Option ρ) : (S_math_bits_Div64_1 g_math_bits_LeadingZeros64  x0 x1 x2 x3 x4 x5 x6 x7 x8 c x).bind q = S_math_bits_Div64_1 g_math_bits_LeadingZeros64  x0 x1 x2 x3 x4 x5 x6 x7 x8 (fun d => (c d).bind q) (fun d => (x d).bind q) := by
  simp only [S_math_bits_Div64_1, bnd_cond, bnd_bind, bnd_none, bnd_sum]
def L_math_bits_Div64_1 {ρ : Type} (d : Int × Int × Int × Int × Int × Int × Int × Int × Int) (k : (Int × Int × Int × Int × Int × Int × Int × Int × Int × Int × Bool × Int × Bool ⊕
  Int × Int × Int × Int × Int × Int × Int × Int × Int × Int × Bool × Int × Int × Int × Int × Bool × Bool ⊕ Int × Int × Int × Int × Int × Int × Int × Int × Int × Bool × Int × Int × Int × Bool) → Option ρ) : Option ρ := loopK (fun d c x => S_math_bits_Div64_1 f_math_bits_LeadingZeros64  d.1 d.2.1 d.2.2.1 d.2.2.2.1 d.2.2.2.2.1 d.2.2.2.2.2.1 d.2.2.2.2.2.2.1 d.2.2.2.2.2.2.2.1 d.2.2.2.2.2.2.2.2 c x) 200 d k
theorem mL_math_bits_Div64_1 {ρ σ : Type} (q : ρ → Option σ) (d : Int × Int × Int × Int × Int × Int × Int × Int × Int) (k : (Int × Int × Int × Int × Int × Int × Int × Int × Int × Int × Bool × Int × Bool ⊕
  Int × Int × Int × Int × Int × Int × Int × Int × Int × Int × Bool × Int × Int × Int × Int × Bool × Bool ⊕ Int × Int × Int × Int × Int × Int × Int × Int × Int × Bool × Int × Int × Int × Bool) → Option ρ) : (L_math_bits_Div64_1 d k).bind q = L_math_bits_Div64_1 d fun x => (k x).bind q :=
  loopK_bind q (fun d c x => ms_math_bits_Div64_1 f_math_bits_LeadingZeros64   q d.1 d.2.1 d.2.2.1 d.2.2.2.1 d.2.2.2.2.1 d.2.2.2.2.2.1 d.2.2.2.2.2.2.1 d.2.2.2.2.2.2.2.1 d.2.2.2.2.2.2.2.2 c x) k _ d
theorem ds_math_bits_Div64_0 {ρ : Type} (g_math_bits_LeadingZeros64 : Int → Option Int) (l_0 : ∀ {ρ : Type}, (Int × Int × Int × Int × Int × Int × Int × Int × Int) → ((Int × Int × Int × Int × Int × Int × Int × Int × Int × Int × Bool × Int × Bool ⊕
  Int × Int × Int × Int × Int × Int × Int × Int × Int × Int × Bool × Int × Int × Int × Int × Bool × Bool ⊕ Int × Int × Int × Int × Int × Int × Int × Int × Int × Bool × Int × Int × Int × Bool) → Option ρ) → Option ρ) (l_1 : ∀ {ρ : Type}, (Int × Int × Int × Int × Int × Int × Int × Int × Int) → ((Int × Int × Int × Int × Int × Int × Int × Int × Int × Int × Bool × Int × Bool ⊕
  Int × Int × Int × Int × Int × Int × Int × Int × Int × Int × Bool × Int × Int × Int × Int × Bool × Bool ⊕ Int × Int × Int × Int × Int × Int × Int × Int × Int × Bool × Int × Int × Int × Bool) → Option ρ) → Option ρ) (x0 : Int) (x1 : Int) (x2 : Int) (x3 : Int) (x4 : Int) (x5 : Int) (x6 : Int) (x7 : Int) (x8 : Int) (c : St → Option ρ) (K : AX → St → Option ρ) :
    runC Try.prog (envOf [(89, F_math_bits_LeadingZeros64 g_math_bits_LeadingZeros64)]) ⟨[⟨17, [0, 1, 3, 4, 5, 6, 7, 12, 17, 18, 19, 20, 21, 22, 23, 24, 25, 26, 27, 28, 29, 30, 31, 32, 33, 34, 35, 36, 37, 38, 39, 40, 41, 42, 43, 44, 45, 46, 47, 48, 49, 50, 51, 52, 53, 54, 55, 56, 57, 58, 59, 60, 61, 62, 63, 64, 65, 66, 67, 68, 69, 78, 79, 80, 81, 82, 83, 84, 85, 86, 87, 88, 89, 90, 91, 92, 93, 94, 95, 96, 97, 98, 99, 100, 101, 102, 103, 104, 113, 114, 115, 116, 117, 118, 119, 120, 121, 122, 123, 124, 125, 126, 127, 128, 129, 130, 131, 132, 133, 134, 70, 71, 72, 73, 74, 75, 76, 77], []⟩, ⟨24, [0, 1, 3, 4, 5, 6, 7, 11, 12, 13, 19, 20, 21, 22, 23, 24, 25, 26, 27, 28, 29, 30, 31, 32, 33, 34, 35, 36, 37, 38, 39, 40, 41, 42, 43, 44, 45, 46, 47, 48, 49, 50, 51, 52, 53, 54, 55, 56, 57, 58, 59, 60, 61, 62, 63, 64, 65, 66, 67, 68, 69, 70, 71, 72, 73, 74, 75, 76, 77, 78, 79, 80, 81, 82, 83, 84, 85, 86, 87, 88, 89, 90, 91, 92, 93, 94, 95, 96, 97, 98, 99, 100, 101, 102, 103, 104, 113, 114, 115, 116, 117, 118, 119, 120, 121, 122, 123, 124, 125, 126, 127, 128, 129, 130, 131, 132, 133, 134, 105, 106, 107, 108, 109, 110, 111, 112], []⟩], [⟨17, 0, @R_math_bits_Div64_0 (@l_0)⟩, ⟨24, 0, @R_math_bits_Div64_1 (@l_1)⟩], [], [], none⟩ (tmpsOf Try.prog 54) 0 200 (loopIn Try.prog 54 17)
      (St.mk
    [AV.und, AV.und, AV.r (RV.c (CV.f (FV.i IntKind.u64 x0))), AV.und, AV.und, AV.und, AV.und, AV.und, AV.r (RV.c (CV.f (FV.i IntKind.u64 x1))), AV.r (RV.c (CV.f (FV.i IntKind.u64 x2))),
      AV.r (RV.c (CV.f (FV.i IntKind.u64 x3))), AV.r (RV.c (CV.f (FV.i IntKind.u64 x4))), AV.und, AV.r (RV.c (CV.f (FV.i IntKind.u64 x5))), AV.r (RV.c (CV.f (FV.i IntKind.u64 x6))),
      AV.r (RV.c (CV.f (FV.i IntKind.u64 x7))), AV.r (RV.c (CV.f (FV.i IntKind.u64 x8))), AV.und, AV.und, AV.und, AV.und, AV.und, AV.und, AV.und, AV.und, AV.und, AV.und, AV.und, AV.und, AV.und, AV.und,
      AV.und, AV.und, AV.und, AV.und, AV.und, AV.und, AV.und, AV.und, AV.und, AV.und, AV.und, AV.und, AV.und, AV.und, AV.und, AV.und, AV.und, AV.und, AV.und, AV.und, AV.und, AV.und, AV.und, AV.und,
      AV.und, AV.und, AV.und, AV.und, AV.und, AV.und, AV.und, AV.und, AV.und, AV.und, AV.und, AV.und, AV.und, AV.und, AV.und, AV.und, AV.und, AV.und, AV.und, AV.und, AV.und, AV.und, AV.und, AV.und,
      AV.und, AV.und, AV.und, AV.und, AV.und, AV.und, AV.und, AV.und, AV.und, AV.und, AV.und, AV.und, AV.und, AV.und, AV.und, AV.und, AV.und, AV.und, AV.und, AV.und, AV.und, AV.und, AV.und, AV.und,
      AV.und, AV.und, AV.tup [], AV.tup [], AV.tup [], AV.tup [], AV.tup [], AV.tup [], AV.tup [], AV.tup [], AV.und, AV.und, AV.und, AV.und, AV.und, AV.und, AV.und, AV.und, AV.und, AV.und, AV.und,
      AV.und, AV.und, AV.und, AV.und, AV.und, AV.und, AV.und, AV.und, AV.und, AV.und, AV.und]
    [] [])
      (next (fun t => t.head 0 ⟨[⟨17, [0, 1, 3, 4, 5, 6, 7, 12, 17, 18, 19, 20, 21, 22, 23, 24, 25, 26, 27, 28, 29, 30, 31, 32, 33, 34, 35, 36, 37, 38, 39, 40, 41, 42, 43, 44, 45, 46, 47, 48, 49, 50, 51, 52, 53, 54, 55, 56, 57, 58, 59, 60, 61, 62, 63, 64, 65, 66, 67, 68, 69, 78, 79, 80, 81, 82, 83, 84, 85, 86, 87, 88, 89, 90, 91, 92, 93, 94, 95, 96, 97, 98, 99, 100, 101, 102, 103, 104, 113, 114, 115, 116, 117, 118, 119, 120, 121, 122, 123, 124, 125, 126, 127, 128, 129, 130, 131, 132, 133, 134, 70, 71, 72, 73, 74, 75, 76, 77], []⟩, ⟨24, [0, 1, 3, 4, 5, 6, 7, 11, 12, 13, 19, 20, 21, 22, 23, 24, 25, 26, 27, 28, 29, 30, 31, 32, 33, 34, 35, 36, 37, 38, 39, 40, 41, 42, 43, 44, 45, 46, 47, 48, 49, 50, 51, 52, 53, 54, 55, 56, 57, 58, 59, 60, 61, 62, 63, 64, 65, 66, 67, 68, 69, 70, 71, 72, 73, 74, 75, 76, 77, 78, 79, 80, 81, 82, 83, 84, 85, 86, 87, 88, 89, 90, 91, 92, 93, 94, 95, 96, 97, 98, 99, 100, 101, 102, 103, 104, 113, 114, 115, 116, 117, 118, 119, 120, 121, 122, 123, 124, 125, 126, 127, 128, 129, 130, 131, 132, 133, 134, 105, 106, 107, 108, 109, 110, 111, 112], []⟩], [⟨17, 0, @R_math_bits_Div64_0 (@l_0)⟩, ⟨24, 0, @R_math_bits_Div64_1 (@l_1)⟩], [], [], none⟩ (loopIn Try.prog 54 17)) c K) =
    S_math_bits_Div64_0 g_math_bits_LeadingZeros64  x0 x1 x2 x3 x4 x5 x6 x7 x8 (fun d => c (St.mk
  [AV.und, AV.und, AV.r (RV.c (CV.f (FV.i IntKind.u64 d.fst))), AV.und, AV.und, AV.und, AV.und, AV.und, AV.r (RV.c (CV.f (FV.i IntKind.u64 d.snd.fst))),
    AV.r (RV.c (CV.f (FV.i IntKind.u64 d.snd.snd.fst))), AV.r (RV.c (CV.f (FV.i IntKind.u64 d.snd.snd.snd.fst))), AV.r (RV.c (CV.f (FV.i IntKind.u64 d.snd.snd.snd.snd.fst))), AV.und,
    AV.r (RV.c (CV.f (FV.i IntKind.u64 d.snd.snd.snd.snd.snd.fst))), AV.r (RV.c (CV.f (FV.i IntKind.u64 d.snd.snd.snd.snd.snd.snd.fst))),
    AV.r (RV.c (CV.f (FV.i IntKind.u64 d.snd.snd.snd.snd.snd.snd.snd.fst))), AV.r (RV.c (CV.f (FV.i IntKind.u64 d.snd.snd.snd.snd.snd.snd.snd.snd))), AV.und, AV.und, AV.und, AV.und, AV.und, AV.und,
    AV.und, AV.und, AV.und, AV.und, AV.und, AV.und, AV.und, AV.und, AV.und, AV.und, AV.und, AV.und, AV.und, AV.und, AV.und, AV.und, AV.und, AV.und, AV.und, AV.und, AV.und, AV.und, AV.und, AV.und,
    AV.und, AV.und, AV.und, AV.und, AV.und, AV.und, AV.und, AV.und, AV.und, AV.und, AV.und, AV.und, AV.und, AV.und, AV.und, AV.und, AV.und, AV.und, AV.und, AV.und, AV.und, AV.und, AV.und, AV.und,
    AV.und, AV.und, AV.und, AV.und, AV.und, AV.und, AV.und, AV.und, AV.und, AV.und, AV.und, AV.und, AV.und, AV.und, AV.und, AV.und, AV.und, AV.und, AV.und, AV.und, AV.und, AV.und, AV.und, AV.und,
    AV.und, AV.und, AV.und, AV.und, AV.und, AV.und, AV.und, AV.und, AV.und, AV.und, AV.tup [], AV.tup [], AV.tup [], AV.tup [], AV.tup [], AV.tup [], AV.tup [], AV.tup [], AV.und, AV.und, AV.und,
    AV.und, AV.und, AV.und, AV.und, AV.und, AV.und, AV.und, AV.und, AV.und, AV.und, AV.und, AV.und, AV.und, AV.und, AV.und, AV.und, AV.und, AV.und, AV.und]
  [] [])) (Sum.elim (fun d => K (AX.ex 0) (St.mk
  [AV.und, AV.und, AV.r (RV.c (CV.f (FV.i IntKind.u64 d.fst))), AV.und, AV.und, AV.und, AV.und, AV.und, AV.r (RV.c (CV.f (FV.i IntKind.u64 d.snd.fst))),
    AV.r (RV.c (CV.f (FV.i IntKind.u64 d.snd.snd.fst))), AV.r (RV.c (CV.f (FV.i IntKind.u64 d.snd.snd.snd.fst))), AV.r (RV.c (CV.f (FV.i IntKind.u64 d.snd.snd.snd.snd.fst))), AV.und,
    AV.r (RV.c (CV.f (FV.i IntKind.u64 d.snd.snd.snd.snd.snd.fst))), AV.r (RV.c (CV.f (FV.i IntKind.u64 d.snd.snd.snd.snd.snd.snd.fst))),
    AV.r (RV.c (CV.f (FV.i IntKind.u64 d.snd.snd.snd.snd.snd.snd.snd.fst))), AV.r (RV.c (CV.f (FV.i IntKind.u64 d.snd.snd.snd.snd.snd.snd.snd.snd.fst))), AV.und, AV.und, AV.und, AV.und, AV.und,
    AV.und, AV.und, AV.und, AV.und, AV.und, AV.und, AV.und, AV.und, AV.und, AV.und, AV.und, AV.und, AV.und, AV.und, AV.und, AV.und, AV.und, AV.und, AV.und, AV.und, AV.und, AV.und, AV.und, AV.und,
    AV.und, AV.und, AV.und, AV.und, AV.und, AV.und, AV.und, AV.und, AV.und, AV.und, AV.und, AV.und, AV.und, AV.und, AV.und, AV.und, AV.und, AV.und, AV.und, AV.und, AV.und,
    AV.r (RV.c (CV.f (FV.i IntKind.u64 d.snd.snd.snd.snd.snd.snd.snd.snd.snd.fst))), AV.r (RV.c (CV.f (FV.b d.snd.snd.snd.snd.snd.snd.snd.snd.snd.snd.fst))), AV.r (RV.c (CV.f (FV.b true))), AV.tup [],
    AV.tup [], AV.tup [], AV.tup [], AV.tup [], AV.tup [], AV.tup [], AV.tup [], AV.r (RV.c (CV.f (FV.b true))), AV.r (RV.c (CV.f (FV.i IntKind.u64 d.snd.snd.snd.snd.snd.snd.snd.snd.snd.fst))),
    AV.r (RV.c (CV.f (FV.i IntKind.u64 d.snd.snd.snd.snd.snd.snd.snd.fst))), AV.r (RV.c (CV.f (FV.i IntKind.u64 d.snd.snd.snd.snd.snd.snd.snd.snd.snd.snd.snd.fst))),
    AV.r (RV.c (CV.f (FV.i IntKind.u64 d.snd.snd.fst))), AV.r (RV.c (CV.f (FV.i IntKind.u64 d.snd.snd.snd.snd.snd.snd.snd.snd.fst))),
    AV.r (RV.c (CV.f (FV.i IntKind.u64 d.snd.snd.snd.snd.snd.snd.snd.snd.fst))), AV.r (RV.c (CV.f (FV.b d.snd.snd.snd.snd.snd.snd.snd.snd.snd.snd.snd.snd))), AV.und, AV.und, AV.und, AV.und, AV.und,
    AV.und, AV.und, AV.und, AV.und, AV.und, AV.und, AV.und, AV.und, AV.und, AV.und, AV.und, AV.und, AV.und, AV.und, AV.tup [], AV.tup [], AV.tup [], AV.tup [], AV.tup [], AV.tup [], AV.tup [],
    AV.tup [], AV.und, AV.und, AV.und, AV.und, AV.und, AV.und, AV.und, AV.und, AV.und, AV.und, AV.und, AV.und, AV.und, AV.und, AV.und, AV.und, AV.und, AV.und, AV.und, AV.und, AV.und, AV.und]
  [] [])) (Sum.elim (fun d => K (AX.ex 0) (St.mk
  [AV.und, AV.und, AV.r (RV.c (CV.f (FV.i IntKind.u64 d.fst))), AV.und, AV.und, AV.und, AV.und, AV.und, AV.r (RV.c (CV.f (FV.i IntKind.u64 d.snd.fst))),
    AV.r (RV.c (CV.f (FV.i IntKind.u64 d.snd.snd.fst))), AV.r (RV.c (CV.f (FV.i IntKind.u64 d.snd.snd.snd.fst))), AV.r (RV.c (CV.f (FV.i IntKind.u64 d.snd.snd.snd.snd.fst))), AV.und,
    AV.r (RV.c (CV.f (FV.i IntKind.u64 d.snd.snd.snd.snd.snd.fst))), AV.r (RV.c (CV.f (FV.i IntKind.u64 d.snd.snd.snd.snd.snd.snd.fst))),
    AV.r (RV.c (CV.f (FV.i IntKind.u64 d.snd.snd.snd.snd.snd.snd.snd.fst))), AV.r (RV.c (CV.f (FV.i IntKind.u64 d.snd.snd.snd.snd.snd.snd.snd.snd.fst))), AV.und, AV.und, AV.und, AV.und, AV.und,
    AV.und, AV.und, AV.und, AV.und, AV.und, AV.und, AV.und, AV.und, AV.und, AV.und, AV.und, AV.und, AV.und, AV.und, AV.und, AV.und, AV.und, AV.und, AV.und, AV.und, AV.und, AV.und, AV.und, AV.und,
    AV.und, AV.und, AV.und, AV.und, AV.und, AV.und, AV.und, AV.und, AV.und, AV.und, AV.und, AV.und, AV.und, AV.und, AV.und, AV.und, AV.und, AV.und, AV.und, AV.und, AV.und,
    AV.r (RV.c (CV.f (FV.i IntKind.u64 d.snd.snd.snd.snd.snd.snd.snd.snd.snd.fst))), AV.r (RV.c (CV.f (FV.b d.snd.snd.snd.snd.snd.snd.snd.snd.snd.snd.fst))), AV.r (RV.c (CV.f (FV.b false))),
    AV.r (RV.c (CV.f (FV.i IntKind.u64 d.snd.snd.snd.snd.snd.snd.snd.snd.snd.fst))), AV.r (RV.c (CV.f (FV.i IntKind.u64 d.snd.snd.snd.fst))),
    AV.r (RV.c (CV.f (FV.i IntKind.u64 d.snd.snd.snd.snd.snd.snd.snd.snd.snd.snd.snd.fst))), AV.r (RV.c (CV.f (FV.i IntKind.u64 d.snd.snd.snd.snd.snd.snd.snd.snd.snd.snd.snd.snd.fst))),
    AV.r (RV.c (CV.f (FV.i IntKind.u64 d.snd.snd.snd.snd.snd.snd.snd.snd.snd.snd.snd.snd.snd.fst))), AV.r (RV.c (CV.f (FV.i IntKind.u64 d.snd.snd.snd.snd.snd.fst))),
    AV.r (RV.c (CV.f (FV.i IntKind.u64 d.snd.snd.snd.snd.snd.snd.snd.snd.snd.snd.snd.snd.snd.snd.fst))), AV.r (RV.c (CV.f (FV.b d.snd.snd.snd.snd.snd.snd.snd.snd.snd.snd.snd.snd.snd.snd.snd.fst))),
    AV.r (RV.c (CV.f (FV.b d.snd.snd.snd.snd.snd.snd.snd.snd.snd.snd.snd.snd.snd.snd.snd.fst))), AV.r (RV.c (CV.f (FV.i IntKind.u64 d.snd.snd.snd.snd.snd.snd.snd.snd.snd.fst))),
    AV.r (RV.c (CV.f (FV.i IntKind.u64 d.snd.snd.snd.snd.snd.snd.snd.fst))), AV.r (RV.c (CV.f (FV.i IntKind.u64 d.snd.snd.snd.snd.snd.snd.snd.snd.snd.snd.snd.snd.fst))),
    AV.r (RV.c (CV.f (FV.i IntKind.u64 d.snd.snd.fst))), AV.r (RV.c (CV.f (FV.i IntKind.u64 d.snd.snd.snd.snd.snd.snd.snd.snd.fst))),
    AV.r (RV.c (CV.f (FV.i IntKind.u64 d.snd.snd.snd.snd.snd.snd.snd.snd.fst))), AV.r (RV.c (CV.f (FV.b d.snd.snd.snd.snd.snd.snd.snd.snd.snd.snd.snd.snd.snd.snd.snd.snd))), AV.und, AV.und, AV.und,
    AV.und, AV.und, AV.und, AV.und, AV.und, AV.und, AV.und, AV.und, AV.und, AV.und, AV.und, AV.und, AV.und, AV.und, AV.und, AV.und, AV.tup [], AV.tup [], AV.tup [], AV.tup [], AV.tup [], AV.tup [],
    AV.tup [], AV.tup [], AV.und, AV.und, AV.und, AV.und, AV.und, AV.und, AV.und, AV.und, AV.und, AV.und, AV.und, AV.und, AV.und, AV.und, AV.und, AV.und, AV.und, AV.und, AV.und, AV.und, AV.und,
    AV.und]
  [] [])) (fun d => K (AX.ex 0) (St.mk
  [AV.und, AV.und, AV.r (RV.c (CV.f (FV.i IntKind.u64 d.fst))), AV.und, AV.und, AV.und, AV.und, AV.und, AV.r (RV.c (CV.f (FV.i IntKind.u64 d.snd.fst))),
    AV.r (RV.c (CV.f (FV.i IntKind.u64 d.snd.snd.fst))), AV.r (RV.c (CV.f (FV.i IntKind.u64 d.snd.snd.snd.fst))), AV.r (RV.c (CV.f (FV.i IntKind.u64 d.snd.snd.snd.snd.fst))), AV.und,
    AV.r (RV.c (CV.f (FV.i IntKind.u64 d.snd.snd.snd.snd.snd.fst))), AV.r (RV.c (CV.f (FV.i IntKind.u64 d.snd.snd.snd.snd.snd.snd.fst))),
    AV.r (RV.c (CV.f (FV.i IntKind.u64 d.snd.snd.snd.snd.snd.snd.snd.fst))), AV.r (RV.c (CV.f (FV.i IntKind.u64 d.snd.snd.snd.snd.snd.snd.snd.snd.fst))), AV.und, AV.und, AV.und, AV.und, AV.und,
    AV.und, AV.und, AV.und, AV.und, AV.und, AV.und, AV.und, AV.und, AV.und, AV.und, AV.und, AV.und, AV.und, AV.und, AV.und, AV.und, AV.und, AV.und, AV.und, AV.und, AV.und, AV.und, AV.und, AV.und,
    AV.und, AV.und, AV.und, AV.und, AV.und, AV.und, AV.und, AV.und, AV.und, AV.und, AV.und, AV.und, AV.und, AV.und, AV.und, AV.und, AV.und, AV.und, AV.und, AV.und, AV.und,
    AV.r (RV.c (CV.f (FV.i IntKind.u64 d.snd.snd.snd.snd.snd.snd.snd.fst))), AV.r (RV.c (CV.f (FV.b d.snd.snd.snd.snd.snd.snd.snd.snd.snd.fst))), AV.r (RV.c (CV.f (FV.b false))),
    AV.r (RV.c (CV.f (FV.i IntKind.u64 d.snd.snd.snd.snd.snd.snd.snd.fst))), AV.r (RV.c (CV.f (FV.i IntKind.u64 d.snd.snd.snd.fst))),
    AV.r (RV.c (CV.f (FV.i IntKind.u64 d.snd.snd.snd.snd.snd.snd.snd.snd.snd.snd.fst))), AV.r (RV.c (CV.f (FV.i IntKind.u64 d.snd.snd.snd.snd.snd.snd.snd.snd.fst))),
    AV.r (RV.c (CV.f (FV.i IntKind.u64 d.snd.snd.snd.snd.snd.snd.snd.snd.snd.snd.snd.fst))), AV.r (RV.c (CV.f (FV.i IntKind.u64 d.snd.snd.snd.snd.snd.fst))),
    AV.r (RV.c (CV.f (FV.i IntKind.u64 d.snd.snd.snd.snd.snd.snd.snd.snd.snd.snd.snd.snd.fst))), AV.r (RV.c (CV.f (FV.b d.snd.snd.snd.snd.snd.snd.snd.snd.snd.snd.snd.snd.snd))),
    AV.r (RV.c (CV.f (FV.b d.snd.snd.snd.snd.snd.snd.snd.snd.snd.snd.snd.snd.snd))), AV.und, AV.und, AV.und, AV.und, AV.und, AV.und, AV.und, AV.und, AV.und, AV.und, AV.und, AV.und, AV.und, AV.und,
    AV.und, AV.und, AV.und, AV.und, AV.und, AV.und, AV.und, AV.und, AV.und, AV.und, AV.und, AV.und, AV.tup [], AV.tup [], AV.tup [], AV.tup [], AV.tup [], AV.tup [], AV.tup [], AV.tup [], AV.und,
    AV.und, AV.und, AV.und, AV.und, AV.und, AV.und, AV.und, AV.und, AV.und, AV.und, AV.und, AV.und, AV.und, AV.und, AV.und, AV.und, AV.und, AV.und, AV.und, AV.und, AV.und]
  [] [])))) := by kernel_rfl
theorem it_math_bits_Div64_0 {ρ : Type} (x0 : Int) (x1 : Int) (x2 : Int) (x3 : Int) (x4 : Int) (x5 : Int) (x6 : Int) (x7 : Int) (x8 : Int) (K : AX → St → Option ρ) :
    iter (fun t => t.head 0 ⟨[⟨17, [0, 1, 3, 4, 5, 6, 7, 12, 17, 18, 19, 20, 21, 22, 23, 24, 25, 26, 27, 28, 29, 30, 31, 32, 33, 34, 35, 36, 37, 38, 39, 40, 41, 42, 43, 44, 45, 46, 47, 48, 49, 50, 51, 52, 53, 54, 55, 56, 57, 58, 59, 60, 61, 62, 63, 64, 65, 66, 67, 68, 69, 78, 79, 80, 81, 82, 83, 84, 85, 86, 87, 88, 89, 90, 91, 92, 93, 94, 95, 96, 97, 98, 99, 100, 101, 102, 103, 104, 113, 114, 115, 116, 117, 118, 119, 120, 121, 122, 123, 124, 125, 126, 127, 128, 129, 130, 131, 132, 133, 134, 70, 71, 72, 73, 74, 75, 76, 77], []⟩, ⟨24, [0, 1, 3, 4, 5, 6, 7, 11, 12, 13, 19, 20, 21, 22, 23, 24, 25, 26, 27, 28, 29, 30, 31, 32, 33, 34, 35, 36, 37, 38, 39, 40, 41, 42, 43, 44, 45, 46, 47, 48, 49, 50, 51, 52, 53, 54, 55, 56, 57, 58, 59, 60, 61, 62, 63, 64, 65, 66, 67, 68, 69, 70, 71, 72, 73, 74, 75, 76, 77, 78, 79, 80, 81, 82, 83, 84, 85, 86, 87, 88, 89, 90, 91, 92, 93, 94, 95, 96, 97, 98, 99, 100, 101, 102, 103, 104, 113, 114, 115, 116, 117, 118, 119, 120, 121, 122, 123, 124, 125, 126, 127, 128, 129, 130, 131, 132, 133, 134, 105, 106, 107, 108, 109, 110, 111, 112], []⟩], [⟨17, 0, @R_math_bits_Div64_0 (@L_math_bits_Div64_0)⟩, ⟨24, 0, @R_math_bits_Div64_1 (@L_math_bits_Div64_1)⟩], [], [], none⟩ (loopIn Try.prog 54 17)) (runC Try.prog (envOf [(89, F_math_bits_LeadingZeros64 f_math_bits_LeadingZeros64)]) ⟨[⟨17, [0, 1, 3, 4, 5, 6, 7, 12, 17, 18, 19, 20, 21, 22, 23, 24, 25, 26, 27, 28, 29, 30, 31, 32, 33, 34, 35, 36, 37, 38, 39, 40, 41, 42, 43, 44, 45, 46, 47, 48, 49, 50, 51, 52, 53, 54, 55, 56, 57, 58, 59, 60, 61, 62, 63, 64, 65, 66, 67, 68, 69, 78, 79, 80, 81, 82, 83, 84, 85, 86, 87, 88, 89, 90, 91, 92, 93, 94, 95, 96, 97, 98, 99, 100, 101, 102, 103, 104, 113, 114, 115, 116, 117, 118, 119, 120, 121, 122, 123, 124, 125, 126, 127, 128, 129, 130, 131, 132, 133, 134, 70, 71, 72, 73, 74, 75, 76, 77], []⟩, ⟨24, [0, 1, 3, 4, 5, 6, 7, 11, 12, 13, 19, 20, 21, 22, 23, 24, 25, 26, 27, 28, 29, 30, 31, 32, 33, 34, 35, 36, 37, 38, 39, 40, 41, 42, 43, 44, 45, 46, 47, 48, 49, 50, 51, 52, 53, 54, 55, 56, 57, 58, 59, 60, 61, 62, 63, 64, 65, 66, 67, 68, 69, 70, 71, 72, 73, 74, 75, 76, 77, 78, 79, 80, 81, 82, 83, 84, 85, 86, 87, 88, 89, 90, 91, 92, 93, 94, 95, 96, 97, 98, 99, 100, 101, 102, 103, 104, 113, 114, 115, 116, 117, 118, 119, 120, 121, 122, 123, 124, 125, 126, 127, 128, 129, 130, 131, 132, 133, 134, 105, 106, 107, 108, 109, 110, 111, 112], []⟩], [⟨17, 0, @R_math_bits_Div64_0 (@L_math_bits_Div64_0)⟩, ⟨24, 0, @R_math_bits_Div64_1 (@L_math_bits_Div64_1)⟩], [], [], none⟩ (tmpsOf Try.prog 54) 0 200 (loopIn Try.prog 54 17)) K 200
      (St.mk
    [AV.und, AV.und, AV.r (RV.c (CV.f (FV.i IntKind.u64 x0))), AV.und, AV.und, AV.und, AV.und, AV.und, AV.r (RV.c (CV.f (FV.i IntKind.u64 x1))), AV.r (RV.c (CV.f (FV.i IntKind.u64 x2))),
      AV.r (RV.c (CV.f (FV.i IntKind.u64 x3))), AV.r (RV.c (CV.f (FV.i IntKind.u64 x4))), AV.und, AV.r (RV.c (CV.f (FV.i IntKind.u64 x5))), AV.r (RV.c (CV.f (FV.i IntKind.u64 x6))),
      AV.r (RV.c (CV.f (FV.i IntKind.u64 x7))), AV.r (RV.c (CV.f (FV.i IntKind.u64 x8))), AV.und, AV.und, AV.und, AV.und, AV.und, AV.und, AV.und, AV.und, AV.und, AV.und, AV.und, AV.und, AV.und, AV.und,
      AV.und, AV.und, AV.und, AV.und, AV.und, AV.und, AV.und, AV.und, AV.und, AV.und, AV.und, AV.und, AV.und, AV.und, AV.und, AV.und, AV.und, AV.und, AV.und, AV.und, AV.und, AV.und, AV.und, AV.und,
      AV.und, AV.und, AV.und, AV.und, AV.und, AV.und, AV.und, AV.und, AV.und, AV.und, AV.und, AV.und, AV.und, AV.und, AV.und, AV.und, AV.und, AV.und, AV.und, AV.und, AV.und, AV.und, AV.und, AV.und,
      AV.und, AV.und, AV.und, AV.und, AV.und, AV.und, AV.und, AV.und, AV.und, AV.und, AV.und, AV.und, AV.und, AV.und, AV.und, AV.und, AV.und, AV.und, AV.und, AV.und, AV.und, AV.und, AV.und, AV.und,
      AV.und, AV.und, AV.tup [], AV.tup [], AV.tup [], AV.tup [], AV.tup [], AV.tup [], AV.tup [], AV.tup [], AV.und, AV.und, AV.und, AV.und, AV.und, AV.und, AV.und, AV.und, AV.und, AV.und, AV.und,
      AV.und, AV.und, AV.und, AV.und, AV.und, AV.und, AV.und, AV.und, AV.und, AV.und, AV.und]
    [] []) = L_math_bits_Div64_0 (x0, x1, x2, x3, x4, x5, x6, x7, x8) (Sum.elim (fun d => K (AX.ex 0) (St.mk
  [AV.und, AV.und, AV.r (RV.c (CV.f (FV.i IntKind.u64 d.fst))), AV.und, AV.und, AV.und, AV.und, AV.und, AV.r (RV.c (CV.f (FV.i IntKind.u64 d.snd.fst))),
    AV.r (RV.c (CV.f (FV.i IntKind.u64 d.snd.snd.fst))), AV.r (RV.c (CV.f (FV.i IntKind.u64 d.snd.snd.snd.fst))), AV.r (RV.c (CV.f (FV.i IntKind.u64 d.snd.snd.snd.snd.fst))), AV.und,
    AV.r (RV.c (CV.f (FV.i IntKind.u64 d.snd.snd.snd.snd.snd.fst))), AV.r (RV.c (CV.f (FV.i IntKind.u64 d.snd.snd.snd.snd.snd.snd.fst))),
    AV.r (RV.c (CV.f (FV.i IntKind.u64 d.snd.snd.snd.snd.snd.snd.snd.fst))), AV.r (RV.c (CV.f (FV.i IntKind.u64 d.snd.snd.snd.snd.snd.snd.snd.snd.fst))), AV.und, AV.und, AV.und, AV.und, AV.und,
    AV.und, AV.und, AV.und, AV.und, AV.und, AV.und, AV.und, AV.und, AV.und, AV.und, AV.und, AV.und, AV.und, AV.und, AV.und, AV.und, AV.und, AV.und, AV.und, AV.und, AV.und, AV.und, AV.und, AV.und,
    AV.und, AV.und, AV.und, AV.und, AV.und, AV.und, AV.und, AV.und, AV.und, AV.und, AV.und, AV.und, AV.und, AV.und, AV.und, AV.und, AV.und, AV.und, AV.und, AV.und, AV.und,
    AV.r (RV.c (CV.f (FV.i IntKind.u64 d.snd.snd.snd.snd.snd.snd.snd.snd.snd.fst))), AV.r (RV.c (CV.f (FV.b d.snd.snd.snd.snd.snd.snd.snd.snd.snd.snd.fst))), AV.r (RV.c (CV.f (FV.b true))), AV.tup [],
    AV.tup [], AV.tup [], AV.tup [], AV.tup [], AV.tup [], AV.tup [], AV.tup [], AV.r (RV.c (CV.f (FV.b true))), AV.r (RV.c (CV.f (FV.i IntKind.u64 d.snd.snd.snd.snd.snd.snd.snd.snd.snd.fst))),
    AV.r (RV.c (CV.f (FV.i IntKind.u64 d.snd.snd.snd.snd.snd.snd.snd.fst))), AV.r (RV.c (CV.f (FV.i IntKind.u64 d.snd.snd.snd.snd.snd.snd.snd.snd.snd.snd.snd.fst))),
    AV.r (RV.c (CV.f (FV.i IntKind.u64 d.snd.snd.fst))), AV.r (RV.c (CV.f (FV.i IntKind.u64 d.snd.snd.snd.snd.snd.snd.snd.snd.fst))),
    AV.r (RV.c (CV.f (FV.i IntKind.u64 d.snd.snd.snd.snd.snd.snd.snd.snd.fst))), AV.r (RV.c (CV.f (FV.b d.snd.snd.snd.snd.snd.snd.snd.snd.snd.snd.snd.snd))), AV.und, AV.und, AV.und, AV.und, AV.und,
    AV.und, AV.und, AV.und, AV.und, AV.und, AV.und, AV.und, AV.und, AV.und, AV.und, AV.und, AV.und, AV.und, AV.und, AV.tup [], AV.tup [], AV.tup [], AV.tup [], AV.tup [], AV.tup [], AV.tup [],
    AV.tup [], AV.und, AV.und, AV.und, AV.und, AV.und, AV.und, AV.und, AV.und, AV.und, AV.und, AV.und, AV.und, AV.und, AV.und, AV.und, AV.und, AV.und, AV.und, AV.und, AV.und, AV.und, AV.und]
  [] [])) (Sum.elim (fun d => K (AX.ex 0) (St.mk
  [AV.und, AV.und, AV.r (RV.c (CV.f (FV.i IntKind.u64 d.fst))), AV.und, AV.und, AV.und, AV.und, AV.und, AV.r (RV.c (CV.f (FV.i IntKind.u64 d.snd.fst))),
    AV.r (RV.c (CV.f (FV.i IntKind.u64 d.snd.snd.fst))), AV.r (RV.c (CV.f (FV.i IntKind.u64 d.snd.snd.snd.fst))), AV.r (RV.c (CV.f (FV.i IntKind.u64 d.snd.snd.snd.snd.fst))), AV.und,
    AV.r (RV.c (CV.f (FV.i IntKind.u64 d.snd.snd.snd.snd.snd.fst))), AV.r (RV.c (CV.f (FV.i IntKind.u64 d.snd.snd.snd.snd.snd.snd.fst))),
    AV.r (RV.c (CV.f (FV.i IntKind.u64 d.snd.snd.snd.snd.snd.snd.snd.fst))), AV.r (RV.c (CV.f (FV.i IntKind.u64 d.snd.snd.snd.snd.snd.snd.snd.snd.fst))), AV.und, AV.und, AV.und, AV.und, AV.und,
    AV.und, AV.und, AV.und, AV.und, AV.und, AV.und, AV.und, AV.und, AV.und, AV.und, AV.und, AV.und, AV.und, AV.und, AV.und, AV.und, AV.und, AV.und, AV.und, AV.und, AV.und, AV.und, AV.und, AV.und,
    AV.und, AV.und, AV.und, AV.und, AV.und, AV.und, AV.und, AV.und, AV.und, AV.und, AV.und, AV.und, AV.und, AV.und, AV.und, AV.und, AV.und, AV.und, AV.und, AV.und, AV.und,
    AV.r (RV.c (CV.f (FV.i IntKind.u64 d.snd.snd.snd.snd.snd.snd.snd.snd.snd.fst))), AV.r (RV.c (CV.f (FV.b d.snd.snd.snd.snd.snd.snd.snd.snd.snd.snd.fst))), AV.r (RV.c (CV.f (FV.b false))),
    AV.r (RV.c (CV.f (FV.i IntKind.u64 d.snd.snd.snd.snd.snd.snd.snd.snd.snd.fst))), AV.r (RV.c (CV.f (FV.i IntKind.u64 d.snd.snd.snd.fst))),
    AV.r (RV.c (CV.f (FV.i IntKind.u64 d.snd.snd.snd.snd.snd.snd.snd.snd.snd.snd.snd.fst))), AV.r (RV.c (CV.f (FV.i IntKind.u64 d.snd.snd.snd.snd.snd.snd.snd.snd.snd.snd.snd.snd.fst))),
    AV.r (RV.c (CV.f (FV.i IntKind.u64 d.snd.snd.snd.snd.snd.snd.snd.snd.snd.snd.snd.snd.snd.fst))), AV.r (RV.c (CV.f (FV.i IntKind.u64 d.snd.snd.snd.snd.snd.fst))),
    AV.r (RV.c (CV.f (FV.i IntKind.u64 d.snd.snd.snd.snd.snd.snd.snd.snd.snd.snd.snd.snd.snd.snd.fst))), AV.r (RV.c (CV.f (FV.b d.snd.snd.snd.snd.snd.snd.snd.snd.snd.snd.snd.snd.snd.snd.snd.fst))),
    AV.r (RV.c (CV.f (FV.b d.snd.snd.snd.snd.snd.snd.snd.snd.snd.snd.snd.snd.snd.snd.snd.fst))), AV.r (RV.c (CV.f (FV.i IntKind.u64 d.snd.snd.snd.snd.snd.snd.snd.snd.snd.fst))),
    AV.r (RV.c (CV.f (FV.i IntKind.u64 d.snd.snd.snd.snd.snd.snd.snd.fst))), AV.r (RV.c (CV.f (FV.i IntKind.u64 d.snd.snd.snd.snd.snd.snd.snd.snd.snd.snd.snd.snd.fst))),
    AV.r (RV.c (CV.f (FV.i IntKind.u64 d.snd.snd.fst))), AV.r (RV.c (CV.f (FV.i IntKind.u64 d.snd.snd.snd.snd.snd.snd.snd.snd.fst))),
    AV.r (RV.c (CV.f (FV.i IntKind.u64 d.snd.snd.snd.snd.snd.snd.snd.snd.fst))), AV.r (RV.c (CV.f (FV.b d.snd.snd.snd.snd.snd.snd.snd.snd.snd.snd.snd.snd.snd.snd.snd.snd))), AV.und, AV.und, AV.und,
    AV.und, AV.und, AV.und, AV.und, AV.und, AV.und, AV.und, AV.und, AV.und, AV.und, AV.und, AV.und, AV.und, AV.und, AV.und, AV.und, AV.tup [], AV.tup [], AV.tup [], AV.tup [], AV.tup [], AV.tup [],
    AV.tup [], AV.tup [], AV.und, AV.und, AV.und, AV.und, AV.und, AV.und, AV.und, AV.und, AV.und, AV.und, AV.und, AV.und, AV.und, AV.und, AV.und, AV.und, AV.und, AV.und, AV.und, AV.und, AV.und,
    AV.und]
  [] [])) (fun d => K (AX.ex 0) (St.mk
  [AV.und, AV.und, AV.r (RV.c (CV.f (FV.i IntKind.u64 d.fst))), AV.und, AV.und, AV.und, AV.und, AV.und, AV.r (RV.c (CV.f (FV.i IntKind.u64 d.snd.fst))),
    AV.r (RV.c (CV.f (FV.i IntKind.u64 d.snd.snd.fst))), AV.r (RV.c (CV.f (FV.i IntKind.u64 d.snd.snd.snd.fst))), AV.r (RV.c (CV.f (FV.i IntKind.u64 d.snd.snd.snd.snd.fst))), AV.und,
    AV.r (RV.c (CV.f (FV.i IntKind.u64 d.snd.snd.snd.snd.snd.fst))), AV.r (RV.c (CV.f (FV.i IntKind.u64 d.snd.snd.snd.snd.snd.snd.fst))),
    AV.r (RV.c (CV.f (FV.i IntKind.u64 d.snd.snd.snd.snd.snd.snd.snd.fst))), AV.r (RV.c (CV.f (FV.i IntKind.u64 d.snd.snd.snd.snd.snd.snd.snd.snd.fst))), AV.und, AV.und, AV.und, AV.und, AV.und,
    AV.und, AV.und, AV.und, AV.und, AV.und, AV.und, AV.und, AV.und, AV.und, AV.und, AV.und, AV.und, AV.und, AV.und, AV.und, AV.und, AV.und, AV.und, AV.und, AV.und, AV.und, AV.und, AV.und, AV.und,
    AV.und, AV.und, AV.und, AV.und, AV.und, AV.und, AV.und, AV.und, AV.und, AV.und, AV.und, AV.und, AV.und, AV.und, AV.und, AV.und, AV.und, AV.und, AV.und, AV.und, AV.und,
    AV.r (RV.c (CV.f (FV.i IntKind.u64 d.snd.snd.snd.snd.snd.snd.snd.fst))), AV.r (RV.c (CV.f (FV.b d.snd.snd.snd.snd.snd.snd.snd.snd.snd.fst))), AV.r (RV.c (CV.f (FV.b false))),
    AV.r (RV.c (CV.f (FV.i IntKind.u64 d.snd.snd.snd.snd.snd.snd.snd.fst))), AV.r (RV.c (CV.f (FV.i IntKind.u64 d.snd.snd.snd.fst))),
    AV.r (RV.c (CV.f (FV.i IntKind.u64 d.snd.snd.snd.snd.snd.snd.snd.snd.snd.snd.fst))), AV.r (RV.c (CV.f (FV.i IntKind.u64 d.snd.snd.snd.snd.snd.snd.snd.snd.fst))),
    AV.r (RV.c (CV.f (FV.i IntKind.u64 d.snd.snd.snd.snd.snd.snd.snd.snd.snd.snd.snd.fst))), AV.r (RV.c (CV.f (FV.i IntKind.u64 d.snd.snd.snd.snd.snd.fst))),
    AV.r (RV.c (CV.f (FV.i IntKind.u64 d.snd.snd.snd.snd.snd.snd.snd.snd.snd.snd.snd.snd.fst))), AV.r (RV.c (CV.f (FV.b d.snd.snd.snd.snd.snd.snd.snd.snd.snd.snd.snd.snd.snd))),
    AV.r (RV.c (CV.f (FV.b d.snd.snd.snd.snd.snd.snd.snd.snd.snd.snd.snd.snd.snd))), AV.und, AV.und, AV.und, AV.und, AV.und, AV.und, AV.und, AV.und, AV.und, AV.und, AV.und, AV.und, AV.und, AV.und,
    AV.und, AV.und, AV.und, AV.und, AV.und, AV.und, AV.und, AV.und, AV.und, AV.und, AV.und, AV.und, AV.tup [], AV.tup [], AV.tup [], AV.tup [], AV.tup [], AV.tup [], AV.tup [], AV.tup [], AV.und,
    AV.und, AV.und, AV.und, AV.und, AV.und, AV.und, AV.und, AV.und, AV.und, AV.und, AV.und, AV.und, AV.und, AV.und, AV.und, AV.und, AV.und, AV.und, AV.und, AV.und, AV.und]
  [] [])))) :=
  iter_loopX (emb := fun (d : Int × Int × Int × Int × Int × Int × Int × Int × Int) => St.mk
  [AV.und, AV.und, AV.r (RV.c (CV.f (FV.i IntKind.u64 d.fst))), AV.und, AV.und, AV.und, AV.und, AV.und, AV.r (RV.c (CV.f (FV.i IntKind.u64 d.snd.fst))),
    AV.r (RV.c (CV.f (FV.i IntKind.u64 d.snd.snd.fst))), AV.r (RV.c (CV.f (FV.i IntKind.u64 d.snd.snd.snd.fst))), AV.r (RV.c (CV.f (FV.i IntKind.u64 d.snd.snd.snd.snd.fst))), AV.und,
    AV.r (RV.c (CV.f (FV.i IntKind.u64 d.snd.snd.snd.snd.snd.fst))), AV.r (RV.c (CV.f (FV.i IntKind.u64 d.snd.snd.snd.snd.snd.snd.fst))),
    AV.r (RV.c (CV.f (FV.i IntKind.u64 d.snd.snd.snd.snd.snd.snd.snd.fst))), AV.r (RV.c (CV.f (FV.i IntKind.u64 d.snd.snd.snd.snd.snd.snd.snd.snd))), AV.und, AV.und, AV.und, AV.und, AV.und, AV.und,
    AV.und, AV.und, AV.und, AV.und, AV.und, AV.und, AV.und, AV.und, AV.und, AV.und, AV.und, AV.und, AV.und, AV.und, AV.und, AV.und, AV.und, AV.und, AV.und, AV.und, AV.und, AV.und, AV.und, AV.und,
    AV.und, AV.und, AV.und, AV.und, AV.und, AV.und, AV.und, AV.und, AV.und, AV.und, AV.und, AV.und, AV.und, AV.und, AV.und, AV.und, AV.und, AV.und, AV.und, AV.und, AV.und, AV.und, AV.und, AV.und,
    AV.und, AV.und, AV.und, AV.und, AV.und, AV.und, AV.und, AV.und, AV.und, AV.und, AV.und, AV.und, AV.und, AV.und, AV.und, AV.und, AV.und, AV.und, AV.und, AV.und, AV.und, AV.und, AV.und, AV.und,
    AV.und, AV.und, AV.und, AV.und, AV.und, AV.und, AV.und, AV.und, AV.und, AV.und, AV.tup [], AV.tup [], AV.tup [], AV.tup [], AV.tup [], AV.tup [], AV.tup [], AV.tup [], AV.und, AV.und, AV.und,
    AV.und, AV.und, AV.und, AV.und, AV.und, AV.und, AV.und, AV.und, AV.und, AV.und, AV.und, AV.und, AV.und, AV.und, AV.und, AV.und, AV.und, AV.und, AV.und]
  [] []) (step := fun d c x => S_math_bits_Div64_0 f_math_bits_LeadingZeros64  d.1 d.2.1 d.2.2.1 d.2.2.2.1 d.2.2.2.2.1 d.2.2.2.2.2.1 d.2.2.2.2.2.2.1 d.2.2.2.2.2.2.2.1 d.2.2.2.2.2.2.2.2 c x) (kx := (Sum.elim (fun d => K (AX.ex 0) (St.mk
  [AV.und, AV.und, AV.r (RV.c (CV.f (FV.i IntKind.u64 d.fst))), AV.und, AV.und, AV.und, AV.und, AV.und, AV.r (RV.c (CV.f (FV.i IntKind.u64 d.snd.fst))),
    AV.r (RV.c (CV.f (FV.i IntKind.u64 d.snd.snd.fst))), AV.r (RV.c (CV.f (FV.i IntKind.u64 d.snd.snd.snd.fst))), AV.r (RV.c (CV.f (FV.i IntKind.u64 d.snd.snd.snd.snd.fst))), AV.und,
    AV.r (RV.c (CV.f (FV.i IntKind.u64 d.snd.snd.snd.snd.snd.fst))), AV.r (RV.c (CV.f (FV.i IntKind.u64 d.snd.snd.snd.snd.snd.snd.fst))),
    AV.r (RV.c (CV.f (FV.i IntKind.u64 d.snd.snd.snd.snd.snd.snd.snd.fst))), AV.r (RV.c (CV.f (FV.i IntKind.u64 d.snd.snd.snd.snd.snd.snd.snd.snd.fst))), AV.und, AV.und, AV.und, AV.und, AV.und,
    AV.und, AV.und, AV.und, AV.und, AV.und, AV.und, AV.und, AV.und, AV.und, AV.und, AV.und, AV.und, AV.und, AV.und, AV.und, AV.und, AV.und, AV.und, AV.und, AV.und, AV.und, AV.und, AV.und, AV.und,
    AV.und, AV.und, AV.und, AV.und, AV.und, AV.und, AV.und, AV.und, AV.und, AV.und, AV.und, AV.und, AV.und, AV.und, AV.und, AV.und, AV.und, AV.und, AV.und, AV.und, AV.und,
    AV.r (RV.c (CV.f (FV.i IntKind.u64 d.snd.snd.snd.snd.snd.snd.snd.snd.snd.fst))), AV.r (RV.c (CV.f (FV.b d.snd.snd.snd.snd.snd.snd.snd.snd.snd.snd.fst))), AV.r (RV.c (CV.f (FV.b true))), AV.tup [],
    AV.tup [], AV.tup [], AV.tup [], AV.tup [], AV.tup [], AV.tup [], AV.tup [], AV.r (RV.c (CV.f (FV.b true))), AV.r (RV.c (CV.f (FV.i IntKind.u64 d.snd.snd.snd.snd.snd.snd.snd.snd.snd.fst))),
    AV.r (RV.c (CV.f (FV.i IntKind.u64 d.snd.snd.snd.snd.snd.snd.snd.fst))), AV.r (RV.c (CV.f (FV.i IntKind.u64 d.snd.snd.snd.snd.snd.snd.snd.snd.snd.snd.snd.fst))),
    AV.r (RV.c (CV.f (FV.i IntKind.u64 d.snd.snd.fst))), AV.r (RV.c (CV.f (FV.i IntKind.u64 d.snd.snd.snd.snd.snd.snd.snd.snd.fst))),
    AV.r (RV.c (CV.f (FV.i IntKind.u64 d.snd.snd.snd.snd.snd.snd.snd.snd.fst))), AV.r (RV.c (CV.f (FV.b d.snd.snd.snd.snd.snd.snd.snd.snd.snd.snd.snd.snd))), AV.und, AV.und, AV.und, AV.und, AV.und,
    AV.und, AV.und, AV.und, AV.und, AV.und, AV.und, AV.und, AV.und, AV.und, AV.und, AV.und, AV.und, AV.und, AV.und, AV.tup [], AV.tup [], AV.tup [], AV.tup [], AV.tup [], AV.tup [], AV.tup [],
    AV.tup [], AV.und, AV.und, AV.und, AV.und, AV.und, AV.und, AV.und, AV.und, AV.und, AV.und, AV.und, AV.und, AV.und, AV.und, AV.und, AV.und, AV.und, AV.und, AV.und, AV.und, AV.und, AV.und]
  [] [])) (Sum.elim (fun d => K (AX.ex 0) (St.mk
  [AV.und, AV.und, AV.r (RV.c (CV.f (FV.i IntKind.u64 d.fst))), AV.und, AV.und, AV.und, AV.und, AV.und, AV.r (RV.c (CV.f (FV.i IntKind.u64 d.snd.fst))),
    AV.r (RV.c (CV.f (FV.i IntKind.u64 d.snd.snd.fst))), AV.r (RV.c (CV.f (FV.i IntKind.u64 d.snd.snd.snd.fst))), AV.r (RV.c (CV.f (FV.i IntKind.u64 d.snd.snd.snd.snd.fst))), AV.und,
    AV.r (RV.c (CV.f (FV.i IntKind.u64 d.snd.snd.snd.snd.snd.fst))), AV.r (RV.c (CV.f (FV.i IntKind.u64 d.snd.snd.snd.snd.snd.snd.fst))),
    AV.r (RV.c (CV.f (FV.i IntKind.u64 d.snd.snd.snd.snd.snd.snd.snd.fst))), AV.r (RV.c (CV.f (FV.i IntKind.u64 d.snd.snd.snd.snd.snd.snd.snd.snd.fst))), AV.und, AV.und, AV.und, AV.und, AV.und,
    AV.und, AV.und, AV.und, AV.und, AV.und, AV.und, AV.und, AV.und, AV.und, AV.und, AV.und, AV.und, AV.und, AV.und, AV.und, AV.und, AV.und, AV.und, AV.und, AV.und, AV.und, AV.und, AV.und, AV.und,
    AV.und, AV.und, AV.und, AV.und, AV.und, AV.und, AV.und, AV.und, AV.und, AV.und, AV.und, AV.und, AV.und, AV.und, AV.und, AV.und, AV.und, AV.und, AV.und, AV.und, AV.und,
    AV.r (RV.c (CV.f (FV.i IntKind.u64 d.snd.snd.snd.snd.snd.snd.snd.snd.snd.fst))), AV.r (RV.c (CV.f (FV.b d.snd.snd.snd.snd.snd.snd.snd.snd.snd.snd.fst))), AV.r (RV.c (CV.f (FV.b false))),
    AV.r (RV.c (CV.f (FV.i IntKind.u64 d.snd.snd.snd.snd.snd.snd.snd.snd.snd.fst))), AV.r (RV.c (CV.f (FV.i IntKind.u64 d.snd.snd.snd.fst))),
    AV.r (RV.c (CV.f (FV.i IntKind.u64 d.snd.snd.snd.snd.snd.snd.snd.snd.snd.snd.snd.fst))), AV.r (RV.c (CV.f (FV.i IntKind.u64 d.snd.snd.snd.snd.snd.snd.snd.snd.snd.snd.snd.snd.fst))),
    AV.r (RV.c (CV.f (FV.i IntKind.u64 d.snd.snd.snd.snd.snd.snd.snd.snd.snd.snd.snd.snd.snd.fst))), AV.r (RV.c (CV.f (FV.i IntKind.u64 d.snd.snd.snd.snd.snd.fst))),
    AV.r (RV.c (CV.f (FV.i IntKind.u64 d.snd.snd.snd.snd.snd.snd.snd.snd.snd.snd.snd.snd.snd.snd.fst))), AV.r (RV.c (CV.f (FV.b d.snd.snd.snd.snd.snd.snd.snd.snd.snd.snd.snd.snd.snd.snd.snd.fst))),
    AV.r (RV.c (CV.f (FV.b d.snd.snd.snd.snd.snd.snd.snd.snd.snd.snd.snd.snd.snd.snd.snd.fst))), AV.r (RV.c (CV.f (FV.i IntKind.u64 d.snd.snd.snd.snd.snd.snd.snd.snd.snd.fst))),
    AV.r (RV.c (CV.f (FV.i IntKind.u64 d.snd.snd.snd.snd.snd.snd.snd.fst))), AV.r (RV.c (CV.f (FV.i IntKind.u64 d.snd.snd.snd.snd.snd.snd.snd.snd.snd.snd.snd.snd.fst))),
    AV.r (RV.c (CV.f (FV.i IntKind.u64 d.snd.snd.fst))), AV.r (RV.c (CV.f (FV.i IntKind.u64 d.snd.snd.snd.snd.snd.snd.snd.snd.fst))),
    AV.r (RV.c (CV.f (FV.i IntKind.u64 d.snd.snd.snd.snd.snd.snd.snd.snd.fst))), AV.r (RV.c (CV.f (FV.b d.snd.snd.snd.snd.snd.snd.snd.snd.snd.snd.snd.snd.snd.snd.snd.snd))), AV.und, AV.und, AV.und,
    AV.und, AV.und, AV.und, AV.und, AV.und, AV.und, AV.und, AV.und, AV.und, AV.und, AV.und, AV.und, AV.und, AV.und, AV.und, AV.und, AV.tup [], AV.tup [], AV.tup [], AV.tup [], AV.tup [], AV.tup [],
    AV.tup [], AV.tup [], AV.und, AV.und, AV.und, AV.und, AV.und, AV.und, AV.und, AV.und, AV.und, AV.und, AV.und, AV.und, AV.und, AV.und, AV.und, AV.und, AV.und, AV.und, AV.und, AV.und, AV.und,
    AV.und]
  [] [])) (fun d => K (AX.ex 0) (St.mk
  [AV.und, AV.und, AV.r (RV.c (CV.f (FV.i IntKind.u64 d.fst))), AV.und, AV.und, AV.und, AV.und, AV.und, AV.r (RV.c (CV.f (FV.i IntKind.u64 d.snd.fst))),
    AV.r (RV.c (CV.f (FV.i IntKind.u64 d.snd.snd.fst))), AV.r (RV.c (CV.f (FV.i IntKind.u64 d.snd.snd.snd.fst))), AV.r (RV.c (CV.f (FV.i IntKind.u64 d.snd.snd.snd.snd.fst))), AV.und,
    AV.r (RV.c (CV.f (FV.i IntKind.u64 d.snd.snd.snd.snd.snd.fst))), AV.r (RV.c (CV.f (FV.i IntKind.u64 d.snd.snd.snd.snd.snd.snd.fst))),
    AV.r (RV.c (CV.f (FV.i IntKind.u64 d.snd.snd.snd.snd.snd.snd.snd.fst))), AV.r (RV.c (CV.f (FV.i IntKind.u64 d.snd.snd.snd.snd.snd.snd.snd.snd.fst))), AV.und, AV.und, AV.und, AV.und, AV.und,
    AV.und, AV.und, AV.und, AV.und, AV.und, AV.und, AV.und, AV.und, AV.und, AV.und, AV.und, AV.und, AV.und, AV.und, AV.und, AV.und, AV.und, AV.und, AV.und, AV.und, AV.und, AV.und, AV.und, AV.und,
    AV.und, AV.und, AV.und, AV.und, AV.und, AV.und, AV.und, AV.und, AV.und, AV.und, AV.und, AV.und, AV.und, AV.und, AV.und, AV.und, AV.und, AV.und, AV.und, AV.und, AV.und,
    AV.r (RV.c (CV.f (FV.i IntKind.u64 d.snd.snd.snd.snd.snd.snd.snd.fst))), AV.r (RV.c (CV.f (FV.b d.snd.snd.snd.snd.snd.snd.snd.snd.snd.fst))), AV.r (RV.c (CV.f (FV.b false))),
    AV.r (RV.c (CV.f (FV.i IntKind.u64 d.snd.snd.snd.snd.snd.snd.snd.fst))), AV.r (RV.c (CV.f (FV.i IntKind.u64 d.snd.snd.snd.fst))),
    AV.r (RV.c (CV.f (FV.i IntKind.u64 d.snd.snd.snd.snd.snd.snd.snd.snd.snd.snd.fst))), AV.r (RV.c (CV.f (FV.i IntKind.u64 d.snd.snd.snd.snd.snd.snd.snd.snd.fst))),
    AV.r (RV.c (CV.f (FV.i IntKind.u64 d.snd.snd.snd.snd.snd.snd.snd.snd.snd.snd.snd.fst))), AV.r (RV.c (CV.f (FV.i IntKind.u64 d.snd.snd.snd.snd.snd.fst))),
    AV.r (RV.c (CV.f (FV.i IntKind.u64 d.snd.snd.snd.snd.snd.snd.snd.snd.snd.snd.snd.snd.fst))), AV.r (RV.c (CV.f (FV.b d.snd.snd.snd.snd.snd.snd.snd.snd.snd.snd.snd.snd.snd))),
    AV.r (RV.c (CV.f (FV.b d.snd.snd.snd.snd.snd.snd.snd.snd.snd.snd.snd.snd.snd))), AV.und, AV.und, AV.und, AV.und, AV.und, AV.und, AV.und, AV.und, AV.und, AV.und, AV.und, AV.und, AV.und, AV.und,
    AV.und, AV.und, AV.und, AV.und, AV.und, AV.und, AV.und, AV.und, AV.und, AV.und, AV.und, AV.und, AV.tup [], AV.tup [], AV.tup [], AV.tup [], AV.tup [], AV.tup [], AV.tup [], AV.tup [], AV.und,
    AV.und, AV.und, AV.und, AV.und, AV.und, AV.und, AV.und, AV.und, AV.und, AV.und, AV.und, AV.und, AV.und, AV.und, AV.und, AV.und, AV.und, AV.und, AV.und, AV.und, AV.und]
  [] [])))))
    (fun d c => ds_math_bits_Div64_0 f_math_bits_LeadingZeros64 (@L_math_bits_Div64_0) (@L_math_bits_Div64_1) d.1 d.2.1 d.2.2.1 d.2.2.2.1 d.2.2.2.2.1 d.2.2.2.2.2.1 d.2.2.2.2.2.2.1 d.2.2.2.2.2.2.2.1 d.2.2.2.2.2.2.2.2 c K) 200 (x0, x1, x2, x3, x4, x5, x6, x7, x8)
theorem so_math_bits_Div64_0 : ∀ kk, SumOK Try.prog (envOf [(89, F_math_bits_LeadingZeros64 f_math_bits_LeadingZeros64)]) ⟨[⟨17, [0, 1, 3, 4, 5, 6, 7, 12, 17, 18, 19, 20, 21, 22, 23, 24, 25, 26, 27, 28, 29, 30, 31, 32, 33, 34, 35, 36, 37, 38, 39, 40, 41, 42, 43, 44, 45, 46, 47, 48, 49, 50, 51, 52, 53, 54, 55, 56, 57, 58, 59, 60, 61, 62, 63, 64, 65, 66, 67, 68, 69, 78, 79, 80, 81, 82, 83, 84, 85, 86, 87, 88, 89, 90, 91, 92, 93, 94, 95, 96, 97, 98, 99, 100, 101, 102, 103, 104, 113, 114, 115, 116, 117, 118, 119, 120, 121, 122, 123, 124, 125, 126, 127, 128, 129, 130, 131, 132, 133, 134, 70, 71, 72, 73, 74, 75, 76, 77], []⟩, ⟨24, [0, 1, 3, 4, 5, 6, 7, 11, 12, 13, 19, 20, 21, 22, 23, 24, 25, 26, 27, 28, 29, 30, 31, 32, 33, 34, 35, 36, 37, 38, 39, 40, 41, 42, 43, 44, 45, 46, 47, 48, 49, 50, 51, 52, 53, 54, 55, 56, 57, 58, 59, 60, 61, 62, 63, 64, 65, 66, 67, 68, 69, 70, 71, 72, 73, 74, 75, 76, 77, 78, 79, 80, 81, 82, 83, 84, 85, 86, 87, 88, 89, 90, 91, 92, 93, 94, 95, 96, 97, 98, 99, 100, 101, 102, 103, 104, 113, 114, 115, 116, 117, 118, 119, 120, 121, 122, 123, 124, 125, 126, 127, 128, 129, 130, 131, 132, 133, 134, 105, 106, 107, 108, 109, 110, 111, 112], []⟩], [⟨17, 0, @R_math_bits_Div64_0 (@L_math_bits_Div64_0)⟩, ⟨24, 0, @R_math_bits_Div64_1 (@L_math_bits_Div64_1)⟩], [], [], none⟩ (tmpsOf Try.prog 54) kk 200 (loopIn Try.prog 54 17) :=
  SumOK.of (id := 17) (k0 := 0) (run := @R_math_bits_Div64_0 (@L_math_bits_Div64_0)) (by kernel_rfl) fun s K r hr => by
    unfold R_math_bits_Div64_0 at hr
    obtain ⟨b, hb, hr1⟩ := Option.bind_eq_some_iff.1 hr
    have e := ((Q_math_bits_Div64_0).ok s b hb).trans (q_math_bits_Div64_0 b)
    subst e
    exact ⟨200, (it_math_bits_Div64_0 b.1.2.2.1 b.1.2.2.2.2.2.2.2.2.1 b.1.2.2.2.2.2.2.2.2.2.1 b.1.2.2.2.2.2.2.2.2.2.2.1 b.1.2.2.2.2.2.2.2.2.2.2.2.1 b.1.2.2.2.2.2.2.2.2.2.2.2.2.2.1 b.1.2.2.2.2.2.2.2.2.2.2.2.2.2.2.1 b.1.2.2.2.2.2.2.2.2.2.2.2.2.2.2.2.1 b.1.2.2.2.2.2.2.2.2.2.2.2.2.2.2.2.2.1 K).trans hr1⟩
theorem ds_math_bits_Div64_1 {ρ : Type} (g_math_bits_LeadingZeros64 : Int → Option Int) (l_0 : ∀ {ρ : Type}, (Int × Int × Int × Int × Int × Int × Int × Int × Int) → ((Int × Int × Int × Int × Int × Int × Int × Int × Int × Int × Bool × Int × Bool ⊕
  Int × Int × Int × Int × Int × Int × Int × Int × Int × Int × Bool × Int × Int × Int × Int × Bool × Bool ⊕ Int × Int × Int × Int × Int × Int × Int × Int × Int × Bool × Int × Int × Int × Bool) → Option ρ) → Option ρ) (l_1 : ∀ {ρ : Type}, (Int × Int × Int × Int × Int × Int × Int × Int × Int) → ((Int × Int × Int × Int × Int × Int × Int × Int × Int × Int × Bool × Int × Bool ⊕
  Int × Int × Int × Int × Int × Int × Int × Int × Int × Int × Bool × Int × Int × Int × Int × Bool × Bool ⊕ Int × Int × Int × Int × Int × Int × Int × Int × Int × Bool × Int × Int × Int × Bool) → Option ρ) → Option ρ) (x0 : Int) (x1 : Int) (x2 : Int) (x3 : Int) (x4 : Int) (x5 : Int) (x6 : Int) (x7 : Int) (x8 : Int) (c : St → Option ρ) (K : AX → St → Option ρ) :
    runC Try.prog (envOf [(89, F_math_bits_LeadingZeros64 g_math_bits_LeadingZeros64)]) ⟨[⟨17, [0, 1, 3, 4, 5, 6, 7, 12, 17, 18, 19, 20, 21, 22, 23, 24, 25, 26, 27, 28, 29, 30, 31, 32, 33, 34, 35, 36, 37, 38, 39, 40, 41, 42, 43, 44, 45, 46, 47, 48, 49, 50, 51, 52, 53, 54, 55, 56, 57, 58, 59, 60, 61, 62, 63, 64, 65, 66, 67, 68, 69, 78, 79, 80, 81, 82, 83, 84, 85, 86, 87, 88, 89, 90, 91, 92, 93, 94, 95, 96, 97, 98, 99, 100, 101, 102, 103, 104, 113, 114, 115, 116, 117, 118, 119, 120, 121, 122, 123, 124, 125, 126, 127, 128, 129, 130, 131, 132, 133, 134, 70, 71, 72, 73, 74, 75, 76, 77], []⟩, ⟨24, [0, 1, 3, 4, 5, 6, 7, 11, 12, 13, 19, 20, 21, 22, 23, 24, 25, 26, 27, 28, 29, 30, 31, 32, 33, 34, 35, 36, 37, 38, 39, 40, 41, 42, 43, 44, 45, 46, 47, 48, 49, 50, 51, 52, 53, 54, 55, 56, 57, 58, 59, 60, 61, 62, 63, 64, 65, 66, 67, 68, 69, 70, 71, 72, 73, 74, 75, 76, 77, 78, 79, 80, 81, 82, 83, 84, 85, 86, 87, 88, 89, 90, 91, 92, 93, 94, 95, 96, 97, 98, 99, 100, 101, 102, 103, 104, 113, 114, 115, 116, 117, 118, 119, 120, 121, 122, 123, 124, 125, 126, 127, 128, 129, 130, 131, 132, 133, 134, 105, 106, 107, 108, 109, 110, 111, 112], []⟩], [⟨17, 0, @R_math_bits_Div64_0 (@l_0)⟩, ⟨24, 0, @R_math_bits_Div64_1 (@l_1)⟩], [], [], none⟩ (tmpsOf Try.prog 54) 0 200 (loopIn Try.prog 54 24)
      (St.mk
    [AV.und, AV.und, AV.r (RV.c (CV.f (FV.i IntKind.u64 x0))), AV.und, AV.und, AV.und, AV.und, AV.und, AV.r (RV.c (CV.f (FV.i IntKind.u64 x1))), AV.r (RV.c (CV.f (FV.i IntKind.u64 x2))),
      AV.r (RV.c (CV.f (FV.i IntKind.u64 x3))), AV.und, AV.und, AV.und, AV.r (RV.c (CV.f (FV.i IntKind.u64 x4))), AV.r (RV.c (CV.f (FV.i IntKind.u64 x5))), AV.r (RV.c (CV.f (FV.i IntKind.u64 x6))),
      AV.r (RV.c (CV.f (FV.i IntKind.u64 x7))), AV.r (RV.c (CV.f (FV.i IntKind.u64 x8))), AV.und, AV.und, AV.und, AV.und, AV.und, AV.und, AV.und, AV.und, AV.und, AV.und, AV.und, AV.und, AV.und, AV.und,
      AV.und, AV.und, AV.und, AV.und, AV.und, AV.und, AV.und, AV.und, AV.und, AV.und, AV.und, AV.und, AV.und, AV.und, AV.und, AV.und, AV.und, AV.und, AV.und, AV.und, AV.und, AV.und, AV.und, AV.und,
      AV.und, AV.und, AV.und, AV.und, AV.und, AV.und, AV.und, AV.und, AV.und, AV.und, AV.und, AV.und, AV.und, AV.und, AV.und, AV.und, AV.und, AV.und, AV.und, AV.und, AV.und, AV.und, AV.und, AV.und,
      AV.und, AV.und, AV.und, AV.und, AV.und, AV.und, AV.und, AV.und, AV.und, AV.und, AV.und, AV.und, AV.und, AV.und, AV.und, AV.und, AV.und, AV.und, AV.und, AV.und, AV.und, AV.und, AV.und, AV.und,
      AV.und, AV.und, AV.und, AV.und, AV.und, AV.und, AV.und, AV.und, AV.und, AV.und, AV.und, AV.und, AV.und, AV.und, AV.und, AV.und, AV.und, AV.und, AV.und, AV.und, AV.und, AV.und, AV.und, AV.und,
      AV.und, AV.und, AV.und, AV.und, AV.und, AV.und]
    [] [])
      (next (fun t => t.head 0 ⟨[⟨17, [0, 1, 3, 4, 5, 6, 7, 12, 17, 18, 19, 20, 21, 22, 23, 24, 25, 26, 27, 28, 29, 30, 31, 32, 33, 34, 35, 36, 37, 38, 39, 40, 41, 42, 43, 44, 45, 46, 47, 48, 49, 50, 51, 52, 53, 54, 55, 56, 57, 58, 59, 60, 61, 62, 63, 64, 65, 66, 67, 68, 69, 78, 79, 80, 81, 82, 83, 84, 85, 86, 87, 88, 89, 90, 91, 92, 93, 94, 95, 96, 97, 98, 99, 100, 101, 102, 103, 104, 113, 114, 115, 116, 117, 118, 119, 120, 121, 122, 123, 124, 125, 126, 127, 128, 129, 130, 131, 132, 133, 134, 70, 71, 72, 73, 74, 75, 76, 77], []⟩, ⟨24, [0, 1, 3, 4, 5, 6, 7, 11, 12, 13, 19, 20, 21, 22, 23, 24, 25, 26, 27, 28, 29, 30, 31, 32, 33, 34, 35, 36, 37, 38, 39, 40, 41, 42, 43, 44, 45, 46, 47, 48, 49, 50, 51, 52, 53, 54, 55, 56, 57, 58, 59, 60, 61, 62, 63, 64, 65, 66, 67, 68, 69, 70, 71, 72, 73, 74, 75, 76, 77, 78, 79, 80, 81, 82, 83, 84, 85, 86, 87, 88, 89, 90, 91, 92, 93, 94, 95, 96, 97, 98, 99, 100, 101, 102, 103, 104, 113, 114, 115, 116, 117, 118, 119, 120, 121, 122, 123, 124, 125, 126, 127, 128, 129, 130, 131, 132, 133, 134, 105, 106, 107, 108, 109, 110, 111, 112], []⟩], [⟨17, 0, @R_math_bits_Div64_0 (@l_0)⟩, ⟨24, 0, @R_math_bits_Div64_1 (@l_1)⟩], [], [], none⟩ (loopIn Try.prog 54 24)) c K) =
    S_math_bits_Div64_1 g_math_bits_LeadingZeros64  x0 x1 x2 x3 x4 x5 x6 x7 x8 (fun d => c (St.mk
  [AV.und, AV.und, AV.r (RV.c (CV.f (FV.i IntKind.u64 d.fst))), AV.und, AV.und, AV.und, AV.und, AV.und, AV.r (RV.c (CV.f (FV.i IntKind.u64 d.snd.fst))),
    AV.r (RV.c (CV.f (FV.i IntKind.u64 d.snd.snd.fst))), AV.r (RV.c (CV.f (FV.i IntKind.u64 d.snd.snd.snd.fst))), AV.und, AV.und, AV.und, AV.r (RV.c (CV.f (FV.i IntKind.u64 d.snd.snd.snd.snd.fst))),
    AV.r (RV.c (CV.f (FV.i IntKind.u64 d.snd.snd.snd.snd.snd.fst))), AV.r (RV.c (CV.f (FV.i IntKind.u64 d.snd.snd.snd.snd.snd.snd.fst))),
    AV.r (RV.c (CV.f (FV.i IntKind.u64 d.snd.snd.snd.snd.snd.snd.snd.fst))), AV.r (RV.c (CV.f (FV.i IntKind.u64 d.snd.snd.snd.snd.snd.snd.snd.snd))), AV.und, AV.und, AV.und, AV.und, AV.und, AV.und,
    AV.und, AV.und, AV.und, AV.und, AV.und, AV.und, AV.und, AV.und, AV.und, AV.und, AV.und, AV.und, AV.und, AV.und, AV.und, AV.und, AV.und, AV.und, AV.und, AV.und, AV.und, AV.und, AV.und, AV.und,
    AV.und, AV.und, AV.und, AV.und, AV.und, AV.und, AV.und, AV.und, AV.und, AV.und, AV.und, AV.und, AV.und, AV.und, AV.und, AV.und, AV.und, AV.und, AV.und, AV.und, AV.und, AV.und, AV.und, AV.und,
    AV.und, AV.und, AV.und, AV.und, AV.und, AV.und, AV.und, AV.und, AV.und, AV.und, AV.und, AV.und, AV.und, AV.und, AV.und, AV.und, AV.und, AV.und, AV.und, AV.und, AV.und, AV.und, AV.und, AV.und,
    AV.und, AV.und, AV.und, AV.und, AV.und, AV.und, AV.und, AV.und, AV.und, AV.und, AV.und, AV.und, AV.und, AV.und, AV.und, AV.und, AV.und, AV.und, AV.und, AV.und, AV.und, AV.und, AV.und, AV.und,
    AV.und, AV.und, AV.und, AV.und, AV.und, AV.und, AV.und, AV.und, AV.und, AV.und, AV.und, AV.und, AV.und, AV.und]
  [] [])) (Sum.elim (fun d => K (AX.ex 2) (St.mk
  [AV.und, AV.und, AV.r (RV.c (CV.f (FV.i IntKind.u64 d.fst))), AV.und, AV.und, AV.und, AV.und, AV.und, AV.r (RV.c (CV.f (FV.i IntKind.u64 d.snd.fst))),
    AV.r (RV.c (CV.f (FV.i IntKind.u64 d.snd.snd.fst))), AV.r (RV.c (CV.f (FV.i IntKind.u64 d.snd.snd.snd.fst))), AV.und, AV.und, AV.und, AV.r (RV.c (CV.f (FV.i IntKind.u64 d.snd.snd.snd.snd.fst))),
    AV.r (RV.c (CV.f (FV.i IntKind.u64 d.snd.snd.snd.snd.snd.fst))), AV.r (RV.c (CV.f (FV.i IntKind.u64 d.snd.snd.snd.snd.snd.snd.fst))),
    AV.r (RV.c (CV.f (FV.i IntKind.u64 d.snd.snd.snd.snd.snd.snd.snd.fst))), AV.r (RV.c (CV.f (FV.i IntKind.u64 d.snd.snd.snd.snd.snd.snd.snd.snd.fst))), AV.und, AV.und, AV.und, AV.und, AV.und,
    AV.und, AV.und, AV.und, AV.und, AV.und, AV.und, AV.und, AV.und, AV.und, AV.und, AV.und, AV.und, AV.und, AV.und, AV.und, AV.und, AV.und, AV.und, AV.und, AV.und, AV.und, AV.und, AV.und, AV.und,
    AV.und, AV.und, AV.und, AV.und, AV.und, AV.und, AV.und, AV.und, AV.und, AV.und, AV.und, AV.und, AV.und, AV.und, AV.und, AV.und, AV.und, AV.und, AV.und, AV.und, AV.und, AV.und, AV.und, AV.und,
    AV.und, AV.und, AV.und, AV.und, AV.und, AV.und, AV.und, AV.und, AV.und, AV.und, AV.und, AV.und, AV.und, AV.und, AV.und, AV.und, AV.und, AV.und, AV.und, AV.und, AV.und, AV.und, AV.und, AV.und,
    AV.und, AV.und, AV.und, AV.und, AV.und, AV.und, AV.r (RV.c (CV.f (FV.i IntKind.u64 d.snd.snd.snd.snd.snd.snd.snd.snd.snd.fst))),
    AV.r (RV.c (CV.f (FV.b d.snd.snd.snd.snd.snd.snd.snd.snd.snd.snd.fst))), AV.r (RV.c (CV.f (FV.b true))), AV.tup [], AV.tup [], AV.tup [], AV.tup [], AV.tup [], AV.tup [], AV.tup [], AV.tup [],
    AV.r (RV.c (CV.f (FV.b true))), AV.r (RV.c (CV.f (FV.i IntKind.u64 d.snd.snd.snd.snd.snd.snd.snd.snd.snd.fst))), AV.r (RV.c (CV.f (FV.i IntKind.u64 d.snd.snd.snd.snd.snd.snd.snd.snd.fst))),
    AV.r (RV.c (CV.f (FV.i IntKind.u64 d.snd.snd.snd.snd.snd.snd.snd.snd.snd.snd.snd.fst))), AV.r (RV.c (CV.f (FV.i IntKind.u64 d.snd.snd.fst))),
    AV.r (RV.c (CV.f (FV.i IntKind.u64 d.snd.snd.snd.snd.snd.snd.fst))), AV.r (RV.c (CV.f (FV.i IntKind.u64 d.snd.snd.snd.snd.snd.snd.fst))),
    AV.r (RV.c (CV.f (FV.b d.snd.snd.snd.snd.snd.snd.snd.snd.snd.snd.snd.snd))), AV.und, AV.und, AV.und, AV.und, AV.und, AV.und, AV.und, AV.und, AV.und, AV.und, AV.und, AV.und, AV.und, AV.und]
  [] [])) (Sum.elim (fun d => K (AX.ex 2) (St.mk
  [AV.und, AV.und, AV.r (RV.c (CV.f (FV.i IntKind.u64 d.fst))), AV.und, AV.und, AV.und, AV.und, AV.und, AV.r (RV.c (CV.f (FV.i IntKind.u64 d.snd.fst))),
    AV.r (RV.c (CV.f (FV.i IntKind.u64 d.snd.snd.fst))), AV.r (RV.c (CV.f (FV.i IntKind.u64 d.snd.snd.snd.fst))), AV.und, AV.und, AV.und, AV.r (RV.c (CV.f (FV.i IntKind.u64 d.snd.snd.snd.snd.fst))),
    AV.r (RV.c (CV.f (FV.i IntKind.u64 d.snd.snd.snd.snd.snd.fst))), AV.r (RV.c (CV.f (FV.i IntKind.u64 d.snd.snd.snd.snd.snd.snd.fst))),
    AV.r (RV.c (CV.f (FV.i IntKind.u64 d.snd.snd.snd.snd.snd.snd.snd.fst))), AV.r (RV.c (CV.f (FV.i IntKind.u64 d.snd.snd.snd.snd.snd.snd.snd.snd.fst))), AV.und, AV.und, AV.und, AV.und, AV.und,
    AV.und, AV.und, AV.und, AV.und, AV.und, AV.und, AV.und, AV.und, AV.und, AV.und, AV.und, AV.und, AV.und, AV.und, AV.und, AV.und, AV.und, AV.und, AV.und, AV.und, AV.und, AV.und, AV.und, AV.und,
    AV.und, AV.und, AV.und, AV.und, AV.und, AV.und, AV.und, AV.und, AV.und, AV.und, AV.und, AV.und, AV.und, AV.und, AV.und, AV.und, AV.und, AV.und, AV.und, AV.und, AV.und, AV.und, AV.und, AV.und,
    AV.und, AV.und, AV.und, AV.und, AV.und, AV.und, AV.und, AV.und, AV.und, AV.und, AV.und, AV.und, AV.und, AV.und, AV.und, AV.und, AV.und, AV.und, AV.und, AV.und, AV.und, AV.und, AV.und, AV.und,
    AV.und, AV.und, AV.und, AV.und, AV.und, AV.und, AV.r (RV.c (CV.f (FV.i IntKind.u64 d.snd.snd.snd.snd.snd.snd.snd.snd.snd.fst))),
    AV.r (RV.c (CV.f (FV.b d.snd.snd.snd.snd.snd.snd.snd.snd.snd.snd.fst))), AV.r (RV.c (CV.f (FV.b false))), AV.r (RV.c (CV.f (FV.i IntKind.u64 d.snd.snd.snd.snd.snd.snd.snd.snd.snd.fst))),
    AV.r (RV.c (CV.f (FV.i IntKind.u64 d.snd.snd.snd.fst))), AV.r (RV.c (CV.f (FV.i IntKind.u64 d.snd.snd.snd.snd.snd.snd.snd.snd.snd.snd.snd.fst))),
    AV.r (RV.c (CV.f (FV.i IntKind.u64 d.snd.snd.snd.snd.snd.snd.snd.snd.snd.snd.snd.snd.fst))), AV.r (RV.c (CV.f (FV.i IntKind.u64 d.snd.snd.snd.snd.snd.snd.snd.snd.snd.snd.snd.snd.snd.fst))),
    AV.r (RV.c (CV.f (FV.i IntKind.u64 d.snd.snd.snd.snd.fst))), AV.r (RV.c (CV.f (FV.i IntKind.u64 d.snd.snd.snd.snd.snd.snd.snd.snd.snd.snd.snd.snd.snd.snd.fst))),
    AV.r (RV.c (CV.f (FV.b d.snd.snd.snd.snd.snd.snd.snd.snd.snd.snd.snd.snd.snd.snd.snd.fst))), AV.r (RV.c (CV.f (FV.b d.snd.snd.snd.snd.snd.snd.snd.snd.snd.snd.snd.snd.snd.snd.snd.fst))),
    AV.r (RV.c (CV.f (FV.i IntKind.u64 d.snd.snd.snd.snd.snd.snd.snd.snd.snd.fst))), AV.r (RV.c (CV.f (FV.i IntKind.u64 d.snd.snd.snd.snd.snd.snd.snd.snd.fst))),
    AV.r (RV.c (CV.f (FV.i IntKind.u64 d.snd.snd.snd.snd.snd.snd.snd.snd.snd.snd.snd.snd.fst))), AV.r (RV.c (CV.f (FV.i IntKind.u64 d.snd.snd.fst))),
    AV.r (RV.c (CV.f (FV.i IntKind.u64 d.snd.snd.snd.snd.snd.snd.fst))), AV.r (RV.c (CV.f (FV.i IntKind.u64 d.snd.snd.snd.snd.snd.snd.fst))),
    AV.r (RV.c (CV.f (FV.b d.snd.snd.snd.snd.snd.snd.snd.snd.snd.snd.snd.snd.snd.snd.snd.snd))), AV.und, AV.und, AV.und, AV.und, AV.und, AV.und, AV.und, AV.und, AV.und, AV.und, AV.und, AV.und, AV.und,
    AV.und]
  [] [])) (fun d => K (AX.ex 2) (St.mk
  [AV.und, AV.und, AV.r (RV.c (CV.f (FV.i IntKind.u64 d.fst))), AV.und, AV.und, AV.und, AV.und, AV.und, AV.r (RV.c (CV.f (FV.i IntKind.u64 d.snd.fst))),
    AV.r (RV.c (CV.f (FV.i IntKind.u64 d.snd.snd.fst))), AV.r (RV.c (CV.f (FV.i IntKind.u64 d.snd.snd.snd.fst))), AV.und, AV.und, AV.und, AV.r (RV.c (CV.f (FV.i IntKind.u64 d.snd.snd.snd.snd.fst))),
    AV.r (RV.c (CV.f (FV.i IntKind.u64 d.snd.snd.snd.snd.snd.fst))), AV.r (RV.c (CV.f (FV.i IntKind.u64 d.snd.snd.snd.snd.snd.snd.fst))),
    AV.r (RV.c (CV.f (FV.i IntKind.u64 d.snd.snd.snd.snd.snd.snd.snd.fst))), AV.r (RV.c (CV.f (FV.i IntKind.u64 d.snd.snd.snd.snd.snd.snd.snd.snd.fst))), AV.und, AV.und, AV.und, AV.und, AV.und,
    AV.und, AV.und, AV.und, AV.und, AV.und, AV.und, AV.und, AV.und, AV.und, AV.und, AV.und, AV.und, AV.und, AV.und, AV.und, AV.und, AV.und, AV.und, AV.und, AV.und, AV.und, AV.und, AV.und, AV.und,
    AV.und, AV.und, AV.und, AV.und, AV.und, AV.und, AV.und, AV.und, AV.und, AV.und, AV.und, AV.und, AV.und, AV.und, AV.und, AV.und, AV.und, AV.und, AV.und, AV.und, AV.und, AV.und, AV.und, AV.und,
    AV.und, AV.und, AV.und, AV.und, AV.und, AV.und, AV.und, AV.und, AV.und, AV.und, AV.und, AV.und, AV.und, AV.und, AV.und, AV.und, AV.und, AV.und, AV.und, AV.und, AV.und, AV.und, AV.und, AV.und,
    AV.und, AV.und, AV.und, AV.und, AV.und, AV.und, AV.r (RV.c (CV.f (FV.i IntKind.u64 d.snd.snd.snd.snd.snd.snd.snd.snd.fst))), AV.r (RV.c (CV.f (FV.b d.snd.snd.snd.snd.snd.snd.snd.snd.snd.fst))),
    AV.r (RV.c (CV.f (FV.b false))), AV.r (RV.c (CV.f (FV.i IntKind.u64 d.snd.snd.snd.snd.snd.snd.snd.snd.fst))), AV.r (RV.c (CV.f (FV.i IntKind.u64 d.snd.snd.snd.fst))),
    AV.r (RV.c (CV.f (FV.i IntKind.u64 d.snd.snd.snd.snd.snd.snd.snd.snd.snd.snd.fst))), AV.r (RV.c (CV.f (FV.i IntKind.u64 d.snd.snd.snd.snd.snd.snd.fst))),
    AV.r (RV.c (CV.f (FV.i IntKind.u64 d.snd.snd.snd.snd.snd.snd.snd.snd.snd.snd.snd.fst))), AV.r (RV.c (CV.f (FV.i IntKind.u64 d.snd.snd.snd.snd.fst))),
    AV.r (RV.c (CV.f (FV.i IntKind.u64 d.snd.snd.snd.snd.snd.snd.snd.snd.snd.snd.snd.snd.fst))), AV.r (RV.c (CV.f (FV.b d.snd.snd.snd.snd.snd.snd.snd.snd.snd.snd.snd.snd.snd))),
    AV.r (RV.c (CV.f (FV.b d.snd.snd.snd.snd.snd.snd.snd.snd.snd.snd.snd.snd.snd))), AV.und, AV.und, AV.und, AV.und, AV.und, AV.und, AV.und, AV.und, AV.und, AV.und, AV.und, AV.und, AV.und, AV.und,
    AV.und, AV.und, AV.und, AV.und, AV.und, AV.und, AV.und]
  [] [])))) := by kernel_rfl
theorem it_math_bits_Div64_1 {ρ : Type} (x0 : Int) (x1 : Int) (x2 : Int) (x3 : Int) (x4 : Int) (x5 : Int) (x6 : Int) (x7 : Int) (x8 : Int) (K : AX → St → Option ρ) :
    iter (fun t => t.head 0 ⟨[⟨17, [0, 1, 3, 4, 5, 6, 7, 12, 17, 18, 19, 20, 21, 22, 23, 24, 25, 26, 27, 28, 29, 30, 31, 32, 33, 34, 35, 36, 37, 38, 39, 40, 41, 42, 43, 44, 45, 46, 47, 48, 49, 50, 51, 52, 53, 54, 55, 56, 57, 58, 59, 60, 61, 62, 63, 64, 65, 66, 67, 68, 69, 78, 79, 80, 81, 82, 83, 84, 85, 86, 87, 88, 89, 90, 91, 92, 93, 94, 95, 96, 97, 98, 99, 100, 101, 102, 103, 104, 113, 114, 115, 116, 117, 118, 119, 120, 121, 122, 123, 124, 125, 126, 127, 128, 129, 130, 131, 132, 133, 134, 70, 71, 72, 73, 74, 75, 76, 77], []⟩, ⟨24, [0, 1, 3, 4, 5, 6, 7, 11, 12, 13, 19, 20, 21, 22, 23, 24, 25, 26, 27, 28, 29, 30, 31, 32, 33, 34, 35, 36, 37, 38, 39, 40, 41, 42, 43, 44, 45, 46, 47, 48, 49, 50, 51, 52, 53, 54, 55, 56, 57, 58, 59, 60, 61, 62, 63, 64, 65, 66, 67, 68, 69, 70, 71, 72, 73, 74, 75, 76, 77, 78, 79, 80, 81, 82, 83, 84, 85, 86, 87, 88, 89, 90, 91, 92, 93, 94, 95, 96, 97, 98, 99, 100, 101, 102, 103, 104, 113, 114, 115, 116, 117, 118, 119, 120, 121, 122, 123, 124, 125, 126, 127, 128, 129, 130, 131, 132, 133, 134, 105, 106, 107, 108, 109, 110, 111, 112], []⟩], [⟨17, 0, @R_math_bits_Div64_0 (@L_math_bits_Div64_0)⟩, ⟨24, 0, @R_math_bits_Div64_1 (@L_math_bits_Div64_1)⟩], [], [], none⟩ (loopIn Try.prog 54 24)) (runC Try.prog (envOf [(89, F_math_bits_LeadingZeros64 f_math_bits_LeadingZeros64)]) ⟨[⟨17, [0, 1, 3, 4, 5, 6, 7, 12, 17, 18, 19, 20, 21, 22, 23, 24, 25, 26, 27, 28, 29, 30, 31, 32, 33, 34, 35, 36, 37, 38, 39, 40, 41, 42, 43, 44, 45, 46, 47, 48, 49, 50, 51, 52, 53, 54, 55, 56, 57, 58, 59, 60, 61, 62, 63, 64, 65, 66, 67, 68, 69, 78, 79, 80, 81, 82, 83, 84, 85, 86, 87, 88, 89, 90, 91, 92, 93, 94, 95, 96, 97, 98, 99, 100, 101, 102, 103, 104, 113, 114, 115, 116, 117, 118, 119, 120, 121, 122, 123, 124, 125, 126, 127, 128, 129, 130, 131, 132, 133, 134, 70, 71, 72, 73, 74, 75, 76, 77], []⟩, ⟨24, [0, 1, 3, 4, 5, 6, 7, 11, 12, 13, 19, 20, 21, 22, 23, 24, 25, 26, 27, 28, 29, 30, 31, 32, 33, 34, 35, 36, 37, 38, 39, 40, 41, 42, 43, 44, 45, 46, 47, 48, 49, 50, 51, 52, 53, 54, 55, 56, 57, 58, 59, 60, 61, 62, 63, 64, 65, 66, 67, 68, 69, 70, 71, 72, 73, 74, 75, 76, 77, 78, 79, 80, 81, 82, 83, 84, 85, 86, 87, 88, 89, 90, 91, 92, 93, 94, 95, 96, 97, 98, 99, 100, 101, 102, 103, 104, 113, 114, 115, 116, 117, 118, 119, 120, 121, 122, 123, 124, 125, 126, 127, 128, 129, 130, 131, 132, 133, 134, 105, 106, 107, 108, 109, 110, 111, 112], []⟩], [⟨17, 0, @R_math_bits_Div64_0 (@L_math_bits_Div64_0)⟩, ⟨24, 0, @R_math_bits_Div64_1 (@L_math_bits_Div64_1)⟩], [], [], none⟩ (tmpsOf Try.prog 54) 0 200 (loopIn Try.prog 54 24)) K 200
      (St.mk
    [AV.und, AV.und, AV.r (RV.c (CV.f (FV.i IntKind.u64 x0))), AV.und, AV.und, AV.und, AV.und, AV.und, AV.r (RV.c (CV.f (FV.i IntKind.u64 x1))), AV.r (RV.c (CV.f (FV.i IntKind.u64 x2))),
      AV.r (RV.c (CV.f (FV.i IntKind.u64 x3))), AV.und, AV.und, AV.und, AV.r (RV.c (CV.f (FV.i IntKind.u64 x4))), AV.r (RV.c (CV.f (FV.i IntKind.u64 x5))), AV.r (RV.c (CV.f (FV.i IntKind.u64 x6))),
      AV.r (RV.c (CV.f (FV.i IntKind.u64 x7))), AV.r (RV.c (CV.f (FV.i IntKind.u64 x8))), AV.und, AV.und, AV.und, AV.und, AV.und, AV.und, AV.und, AV.und, AV.und, AV.und, AV.und, AV.und, AV.und, AV.und,
      AV.und, AV.und, AV.und, AV.und, AV.und, AV.und, AV.und, AV.und, AV.und, AV.und, AV.und, AV.und, AV.und, AV.und, AV.und, AV.und, AV.und, AV.und, AV.und, AV.und, AV.und, AV.und, AV.und, AV.und,
      AV.und, AV.und, AV.und, AV.und, AV.und, AV.und, AV.und, AV.und, AV.und, AV.und, AV.und, AV.und, AV.und, AV.und, AV.und, AV.und, AV.und, AV.und, AV.und, AV.und, AV.und, AV.und, AV.und, AV.und,
      AV.und, AV.und, AV.und, AV.und, AV.und, AV.und, AV.und, AV.und, AV.und, AV.und, AV.und, AV.und, AV.und, AV.und, AV.und, AV.und, AV.und, AV.und, AV.und, AV.und, AV.und, AV.und, AV.und, AV.und,
      AV.und, AV.und, AV.und, AV.und, AV.und, AV.und, AV.und, AV.und, AV.und, AV.und, AV.und, AV.und, AV.und, AV.und, AV.und, AV.und, AV.und, AV.und, AV.und, AV.und, AV.und, AV.und, AV.und, AV.und,
      AV.und, AV.und, AV.und, AV.und, AV.und, AV.und]
    [] []) = L_math_bits_Div64_1 (x0, x1, x2, x3, x4, x5, x6, x7, x8) (Sum.elim (fun d => K (AX.ex 2) (St.mk
  [AV.und, AV.und, AV.r (RV.c (CV.f (FV.i IntKind.u64 d.fst))), AV.und, AV.und, AV.und, AV.und, AV.und, AV.r (RV.c (CV.f (FV.i IntKind.u64 d.snd.fst))),
    AV.r (RV.c (CV.f (FV.i IntKind.u64 d.snd.snd.fst))), AV.r (RV.c (CV.f (FV.i IntKind.u64 d.snd.snd.snd.fst))), AV.und, AV.und, AV.und, AV.r (RV.c (CV.f (FV.i IntKind.u64 d.snd.snd.snd.snd.fst))),
    AV.r (RV.c (CV.f (FV.i IntKind.u64 d.snd.snd.snd.snd.snd.fst))), AV.r (RV.c (CV.f (FV.i IntKind.u64 d.snd.snd.snd.snd.snd.snd.fst))),
    AV.r (RV.c (CV.f (FV.i IntKind.u64 d.snd.snd.snd.snd.snd.snd.snd.fst))), AV.r (RV.c (CV.f (FV.i IntKind.u64 d.snd.snd.snd.snd.snd.snd.snd.snd.fst))), AV.und, AV.und, AV.und, AV.und, AV.und,
    AV.und, AV.und, AV.und, AV.und, AV.und, AV.und, AV.und, AV.und, AV.und, AV.und, AV.und, AV.und, AV.und, AV.und, AV.und, AV.und, AV.und, AV.und, AV.und, AV.und, AV.und, AV.und, AV.und, AV.und,
    AV.und, AV.und, AV.und, AV.und, AV.und, AV.und, AV.und, AV.und, AV.und, AV.und, AV.und, AV.und, AV.und, AV.und, AV.und, AV.und, AV.und, AV.und, AV.und, AV.und, AV.und, AV.und, AV.und, AV.und,
    AV.und, AV.und, AV.und, AV.und, AV.und, AV.und, AV.und, AV.und, AV.und, AV.und, AV.und, AV.und, AV.und, AV.und, AV.und, AV.und, AV.und, AV.und, AV.und, AV.und, AV.und, AV.und, AV.und, AV.und,
    AV.und, AV.und, AV.und, AV.und, AV.und, AV.und, AV.r (RV.c (CV.f (FV.i IntKind.u64 d.snd.snd.snd.snd.snd.snd.snd.snd.snd.fst))),
    AV.r (RV.c (CV.f (FV.b d.snd.snd.snd.snd.snd.snd.snd.snd.snd.snd.fst))), AV.r (RV.c (CV.f (FV.b true))), AV.tup [], AV.tup [], AV.tup [], AV.tup [], AV.tup [], AV.tup [], AV.tup [], AV.tup [],
    AV.r (RV.c (CV.f (FV.b true))), AV.r (RV.c (CV.f (FV.i IntKind.u64 d.snd.snd.snd.snd.snd.snd.snd.snd.snd.fst))), AV.r (RV.c (CV.f (FV.i IntKind.u64 d.snd.snd.snd.snd.snd.snd.snd.snd.fst))),
    AV.r (RV.c (CV.f (FV.i IntKind.u64 d.snd.snd.snd.snd.snd.snd.snd.snd.snd.snd.snd.fst))), AV.r (RV.c (CV.f (FV.i IntKind.u64 d.snd.snd.fst))),
    AV.r (RV.c (CV.f (FV.i IntKind.u64 d.snd.snd.snd.snd.snd.snd.fst))), AV.r (RV.c (CV.f (FV.i IntKind.u64 d.snd.snd.snd.snd.snd.snd.fst))),
    AV.r (RV.c (CV.f (FV.b d.snd.snd.snd.snd.snd.snd.snd.snd.snd.snd.snd.snd))), AV.und, AV.und, AV.und, AV.und, AV.und, AV.und, AV.und, AV.und, AV.und, AV.und, AV.und, AV.und, AV.und, AV.und]
  [] [])) (Sum.elim (fun d => K (AX.ex 2) (St.mk
  [AV.und, AV.und, AV.r (RV.c (CV.f (FV.i IntKind.u64 d.fst))), AV.und, AV.und, AV.und, AV.und, AV.und, AV.r (RV.c (CV.f (FV.i IntKind.u64 d.snd.fst))),
    AV.r (RV.c (CV.f (FV.i IntKind.u64 d.snd.snd.fst))), AV.r (RV.c (CV.f (FV.i IntKind.u64 d.snd.snd.snd.fst))), AV.und, AV.und, AV.und, AV.r (RV.c (CV.f (FV.i IntKind.u64 d.snd.snd.snd.snd.fst))),
    AV.r (RV.c (CV.f (FV.i IntKind.u64 d.snd.snd.snd.snd.snd.fst))), AV.r (RV.c (CV.f (FV.i IntKind.u64 d.snd.snd.snd.snd.snd.snd.fst))),
    AV.r (RV.c (CV.f (FV.i IntKind.u64 d.snd.snd.snd.snd.snd.snd.snd.fst))), AV.r (RV.c (CV.f (FV.i IntKind.u64 d.snd.snd.snd.snd.snd.snd.snd.snd.fst))), AV.und, AV.und, AV.und, AV.und, AV.und,
    AV.und, AV.und, AV.und, AV.und, AV.und, AV.und, AV.und, AV.und, AV.und, AV.und, AV.und, AV.und, AV.und, AV.und, AV.und, AV.und, AV.und, AV.und, AV.und, AV.und, AV.und, AV.und, AV.und, AV.und,
    AV.und, AV.und, AV.und, AV.und, AV.und, AV.und, AV.und, AV.und, AV.und, AV.und, AV.und, AV.und, AV.und, AV.und, AV.und, AV.und, AV.und, AV.und, AV.und, AV.und, AV.und, AV.und, AV.und, AV.und,
    AV.und, AV.und, AV.und, AV.und, AV.und, AV.und, AV.und, AV.und, AV.und, AV.und, AV.und, AV.und, AV.und, AV.und, AV.und, AV.und, AV.und, AV.und, AV.und, AV.und, AV.und, AV.und, AV.und, AV.und,
    AV.und, AV.und, AV.und, AV.und, AV.und, AV.und, AV.r (RV.c (CV.f (FV.i IntKind.u64 d.snd.snd.snd.snd.snd.snd.snd.snd.snd.fst))),
    AV.r (RV.c (CV.f (FV.b d.snd.snd.snd.snd.snd.snd.snd.snd.snd.snd.fst))), AV.r (RV.c (CV.f (FV.b false))), AV.r (RV.c (CV.f (FV.i IntKind.u64 d.snd.snd.snd.snd.snd.snd.snd.snd.snd.fst))),
    AV.r (RV.c (CV.f (FV.i IntKind.u64 d.snd.snd.snd.fst))), AV.r (RV.c (CV.f (FV.i IntKind.u64 d.snd.snd.snd.snd.snd.snd.snd.snd.snd.snd.snd.fst))),
    AV.r (RV.c (CV.f (FV.i IntKind.u64 d.snd.snd.snd.snd.snd.snd.snd.snd.snd.snd.snd.snd.fst))), AV.r (RV.c (CV.f (FV.i IntKind.u64 d.snd.snd.snd.snd.snd.snd.snd.snd.snd.snd.snd.snd.snd.fst))),
    AV.r (RV.c (CV.f (FV.i IntKind.u64 d.snd.snd.snd.snd.fst))), AV.r (RV.c (CV.f (FV.i IntKind.u64 d.snd.snd.snd.snd.snd.snd.snd.snd.snd.snd.snd.snd.snd.snd.fst))),
    AV.r (RV.c (CV.f (FV.b d.snd.snd.snd.snd.snd.snd.snd.snd.snd.snd.snd.snd.snd.snd.snd.fst))), AV.r (RV.c (CV.f (FV.b d.snd.snd.snd.snd.snd.snd.snd.snd.snd.snd.snd.snd.snd.snd.snd.fst))),
    AV.r (RV.c (CV.f (FV.i IntKind.u64 d.snd.snd.snd.snd.snd.snd.snd.snd.snd.fst))), AV.r (RV.c (CV.f (FV.i IntKind.u64 d.snd.snd.snd.snd.snd.snd.snd.snd.fst))),
    AV.r (RV.c (CV.f (FV.i IntKind.u64 d.snd.snd.snd.snd.snd.snd.snd.snd.snd.snd.snd.snd.fst))), AV.r (RV.c (CV.f (FV.i IntKind.u64 d.snd.snd.fst))),
    AV.r (RV.c (CV.f (FV.i IntKind.u64 d.snd.snd.snd.snd.snd.snd.fst))), AV.r (RV.c (CV.f (FV.i IntKind.u64 d.snd.snd.snd.snd.snd.snd.fst))),
    AV.r (RV.c (CV.f (FV.b d.snd.snd.snd.snd.snd.snd.snd.snd.snd.snd.snd.snd.snd.snd.snd.snd))), AV.und, AV.und, AV.und, AV.und, AV.und, AV.und, AV.und, AV.und, AV.und, AV.und, AV.und, AV.und, AV.und,
    AV.und]
  [] [])) (fun d => K (AX.ex 2) (St.mk
  [AV.und, AV.und, AV.r (RV.c (CV.f (FV.i IntKind.u64 d.fst))), AV.und, AV.und, AV.und, AV.und, AV.und, AV.r (RV.c (CV.f (FV.i IntKind.u64 d.snd.fst))),
    AV.r (RV.c (CV.f (FV.i IntKind.u64 d.snd.snd.fst))), AV.r (RV.c (CV.f (FV.i IntKind.u64 d.snd.snd.snd.fst))), AV.und, AV.und, AV.und, AV.r (RV.c (CV.f (FV.i IntKind.u64 d.snd.snd.snd.snd.fst))),
    AV.r (RV.c (CV.f (FV.i IntKind.u64 d.snd.snd.snd.snd.snd.fst))), AV.r (RV.c (CV.f (FV.i IntKind.u64 d.snd.snd.snd.snd.snd.snd.fst))),
    AV.r (RV.c (CV.f (FV.i IntKind.u64 d.snd.snd.snd.snd.snd.snd.snd.fst))), AV.r (RV.c (CV.f (FV.i IntKind.u64 d.snd.snd.snd.snd.snd.snd.snd.snd.fst))), AV.und, AV.und, AV.und, AV.und, AV.und,
    AV.und, AV.und, AV.und, AV.und, AV.und, AV.und, AV.und, AV.und, AV.und, AV.und, AV.und, AV.und, AV.und, AV.und, AV.und, AV.und, AV.und, AV.und, AV.und, AV.und, AV.und, AV.und, AV.und, AV.und,
    AV.und, AV.und, AV.und, AV.und, AV.und, AV.und, AV.und, AV.und, AV.und, AV.und, AV.und, AV.und, AV.und, AV.und, AV.und, AV.und, AV.und, AV.und, AV.und, AV.und, AV.und, AV.und, AV.und, AV.und,
    AV.und, AV.und, AV.und, AV.und, AV.und, AV.und, AV.und, AV.und, AV.und, AV.und, AV.und, AV.und, AV.und, AV.und, AV.und, AV.und, AV.und, AV.und, AV.und, AV.und, AV.und, AV.und, AV.und, AV.und,
    AV.und, AV.und, AV.und, AV.und, AV.und, AV.und, AV.r (RV.c (CV.f (FV.i IntKind.u64 d.snd.snd.snd.snd.snd.snd.snd.snd.fst))), AV.r (RV.c (CV.f (FV.b d.snd.snd.snd.snd.snd.snd.snd.snd.snd.fst))),
    AV.r (RV.c (CV.f (FV.b false))), AV.r (RV.c (CV.f (FV.i IntKind.u64 d.snd.snd.snd.snd.snd.snd.snd.snd.fst))), AV.r (RV.c (CV.f (FV.i IntKind.u64 d.snd.snd.snd.fst))),
    AV.r (RV.c (CV.f (FV.i IntKind.u64 d.snd.snd.snd.snd.snd.snd.snd.snd.snd.snd.fst))), AV.r (RV.c (CV.f (FV.i IntKind.u64 d.snd.snd.snd.snd.snd.snd.fst))),
    AV.r (RV.c (CV.f (FV.i IntKind.u64 d.snd.snd.snd.snd.snd.snd.snd.snd.snd.snd.snd.fst))), AV.r (RV.c (CV.f (FV.i IntKind.u64 d.snd.snd.snd.snd.fst))),
    AV.r (RV.c (CV.f (FV.i IntKind.u64 d.snd.snd.snd.snd.snd.snd.snd.snd.snd.snd.snd.snd.fst))), AV.r (RV.c (CV.f (FV.b d.snd.snd.snd.snd.snd.snd.snd.snd.snd.snd.snd.snd.snd))),
    AV.r (RV.c (CV.f (FV.b d.snd.snd.snd.snd.snd.snd.snd.snd.snd.snd.snd.snd.snd))), AV.und, AV.und, AV.und, AV.und, AV.und, AV.und, AV.und, AV.und, AV.und, AV.und, AV.und, AV.und, AV.und, AV.und,
    AV.und, AV.und, AV.und, AV.und, AV.und, AV.und, AV.und]
  [] [])))) :=
  iter_loopX (emb := fun (d : Int × Int × Int × Int × Int × Int × Int × Int × Int) => St.mk
  [AV.und, AV.und, AV.r (RV.c (CV.f (FV.i IntKind.u64 d.fst))), AV.und, AV.und, AV.und, AV.und, AV.und, AV.r (RV.c (CV.f (FV.i IntKind.u64 d.snd.fst))),
    AV.r (RV.c (CV.f (FV.i IntKind.u64 d.snd.snd.fst))), AV.r (RV.c (CV.f (FV.i IntKind.u64 d.snd.snd.snd.fst))), AV.und, AV.und, AV.und, AV.r (RV.c (CV.f (FV.i IntKind.u64 d.snd.snd.snd.snd.fst))),
    AV.r (RV.c (CV.f (FV.i IntKind.u64 d.snd.snd.snd.snd.snd.fst))), AV.r (RV.c (CV.f (FV.i IntKind.u64 d.snd.snd.snd.snd.snd.snd.fst))),
    AV.r (RV.c (CV.f (FV.i IntKind.u64 d.snd.snd.snd.snd.snd.snd.snd.fst))), AV.r (RV.c (CV.f (FV.i IntKind.u64 d.snd.snd.snd.snd.snd.snd.snd.snd))), AV.und, AV.und, AV.und, AV.und, AV.und, AV.und,
    AV.und, AV.und, AV.und, AV.und, AV.und, AV.und, AV.und, AV.und, AV.und, AV.und, AV.und, AV.und, AV.und, AV.und, AV.und, AV.und, AV.und, AV.und, AV.und, AV.und, AV.und, AV.und, AV.und, AV.und,
    AV.und, AV.und, AV.und, AV.und, AV.und, AV.und, AV.und, AV.und, AV.und, AV.und, AV.und, AV.und, AV.und, AV.und, AV.und, AV.und, AV.und, AV.und, AV.und, AV.und, AV.und, AV.und, AV.und, AV.und,
    AV.und, AV.und, AV.und, AV.und, AV.und, AV.und, AV.und, AV.und, AV.und, AV.und, AV.und, AV.und, AV.und, AV.und, AV.und, AV.und, AV.und, AV.und, AV.und, AV.und, AV.und, AV.und, AV.und, AV.und,
    AV.und, AV.und, AV.und, AV.und, AV.und, AV.und, AV.und, AV.und, AV.und, AV.und, AV.und, AV.und, AV.und, AV.und, AV.und, AV.und, AV.und, AV.und, AV.und, AV.und, AV.und, AV.und, AV.und, AV.und,
    AV.und, AV.und, AV.und, AV.und, AV.und, AV.und, AV.und, AV.und, AV.und, AV.und, AV.und, AV.und, AV.und, AV.und]
  [] []) (step := fun d c x => S_math_bits_Div64_1 f_math_bits_LeadingZeros64  d.1 d.2.1 d.2.2.1 d.2.2.2.1 d.2.2.2.2.1 d.2.2.2.2.2.1 d.2.2.2.2.2.2.1 d.2.2.2.2.2.2.2.1 d.2.2.2.2.2.2.2.2 c x) (kx := (Sum.elim (fun d => K (AX.ex 2) (St.mk
  [AV.und, AV.und, AV.r (RV.c (CV.f (FV.i IntKind.u64 d.fst))), AV.und, AV.und, AV.und, AV.und, AV.und, AV.r (RV.c (CV.f (FV.i IntKind.u64 d.snd.fst))),
    AV.r (RV.c (CV.f (FV.i IntKind.u64 d.snd.snd.fst))), AV.r (RV.c (CV.f (FV.i IntKind.u64 d.snd.snd.snd.fst))), AV.und, AV.und, AV.und, AV.r (RV.c (CV.f (FV.i IntKind.u64 d.snd.snd.snd.snd.fst))),
    AV.r (RV.c (CV.f (FV.i IntKind.u64 d.snd.snd.snd.snd.snd.fst))), AV.r (RV.c (CV.f (FV.i IntKind.u64 d.snd.snd.snd.snd.snd.snd.fst))),
    AV.r (RV.c (CV.f (FV.i IntKind.u64 d.snd.snd.snd.snd.snd.snd.snd.fst))), AV.r (RV.c (CV.f (FV.i IntKind.u64 d.snd.snd.snd.snd.snd.snd.snd.snd.fst))), AV.und, AV.und, AV.und, AV.und, AV.und,
    AV.und, AV.und, AV.und, AV.und, AV.und, AV.und, AV.und, AV.und, AV.und, AV.und, AV.und, AV.und, AV.und, AV.und, AV.und, AV.und, AV.und, AV.und, AV.und, AV.und, AV.und, AV.und, AV.und, AV.und,
    AV.und, AV.und, AV.und, AV.und, AV.und, AV.und, AV.und, AV.und, AV.und, AV.und, AV.und, AV.und, AV.und, AV.und, AV.und, AV.und, AV.und, AV.und, AV.und, AV.und, AV.und, AV.und, AV.und, AV.und,
    AV.und, AV.und, AV.und, AV.und, AV.und, AV.und, AV.und, AV.und, AV.und, AV.und, AV.und, AV.und, AV.und, AV.und, AV.und, AV.und, AV.und, AV.und, AV.und, AV.und, AV.und, AV.und, AV.und, AV.und,
    AV.und, AV.und, AV.und, AV.und, AV.und, AV.und, AV.r (RV.c (CV.f (FV.i IntKind.u64 d.snd.snd.snd.snd.snd.snd.snd.snd.snd.fst))),
    AV.r (RV.c (CV.f (FV.b d.snd.snd.snd.snd.snd.snd.snd.snd.snd.snd.fst))), AV.r (RV.c (CV.f (FV.b true))), AV.tup [], AV.tup [], AV.tup [], AV.tup [], AV.tup [], AV.tup [], AV.tup [], AV.tup [],
    AV.r (RV.c (CV.f (FV.b true))), AV.r (RV.c (CV.f (FV.i IntKind.u64 d.snd.snd.snd.snd.snd.snd.snd.snd.snd.fst))), AV.r (RV.c (CV.f (FV.i IntKind.u64 d.snd.snd.snd.snd.snd.snd.snd.snd.fst))),
    AV.r (RV.c (CV.f (FV.i IntKind.u64 d.snd.snd.snd.snd.snd.snd.snd.snd.snd.snd.snd.fst))), AV.r (RV.c (CV.f (FV.i IntKind.u64 d.snd.snd.fst))),
    AV.r (RV.c (CV.f (FV.i IntKind.u64 d.snd.snd.snd.snd.snd.snd.fst))), AV.r (RV.c (CV.f (FV.i IntKind.u64 d.snd.snd.snd.snd.snd.snd.fst))),
    AV.r (RV.c (CV.f (FV.b d.snd.snd.snd.snd.snd.snd.snd.snd.snd.snd.snd.snd))), AV.und, AV.und, AV.und, AV.und, AV.und, AV.und, AV.und, AV.und, AV.und, AV.und, AV.und, AV.und, AV.und, AV.und]
  [] [])) (Sum.elim (fun d => K (AX.ex 2) (St.mk
  [AV.und, AV.und, AV.r (RV.c (CV.f (FV.i IntKind.u64 d.fst))), AV.und, AV.und, AV.und, AV.und, AV.und, AV.r (RV.c (CV.f (FV.i IntKind.u64 d.snd.fst))),
    AV.r (RV.c (CV.f (FV.i IntKind.u64 d.snd.snd.fst))), AV.r (RV.c (CV.f (FV.i IntKind.u64 d.snd.snd.snd.fst))), AV.und, AV.und, AV.und, AV.r (RV.c (CV.f (FV.i IntKind.u64 d.snd.snd.snd.snd.fst))),
    AV.r (RV.c (CV.f (FV.i IntKind.u64 d.snd.snd.snd.snd.snd.fst))), AV.r (RV.c (CV.f (FV.i IntKind.u64 d.snd.snd.snd.snd.snd.snd.fst))),
    AV.r (RV.c (CV.f (FV.i IntKind.u64 d.snd.snd.snd.snd.snd.snd.snd.fst))), AV.r (RV.c (CV.f (FV.i IntKind.u64 d.snd.snd.snd.snd.snd.snd.snd.snd.fst))), AV.und, AV.und, AV.und, AV.und, AV.und,
    AV.und, AV.und, AV.und, AV.und, AV.und, AV.und, AV.und, AV.und, AV.und, AV.und, AV.und, AV.und, AV.und, AV.und, AV.und, AV.und, AV.und, AV.und, AV.und, AV.und, AV.und, AV.und, AV.und, AV.und,
    AV.und, AV.und, AV.und, AV.und, AV.und, AV.und, AV.und, AV.und, AV.und, AV.und, AV.und, AV.und, AV.und, AV.und, AV.und, AV.und, AV.und, AV.und, AV.und, AV.und, AV.und, AV.und, AV.und, AV.und,
    AV.und, AV.und, AV.und, AV.und, AV.und, AV.und, AV.und, AV.und, AV.und, AV.und, AV.und, AV.und, AV.und, AV.und, AV.und, AV.und, AV.und, AV.und, AV.und, AV.und, AV.und, AV.und, AV.und, AV.und,
    AV.und, AV.und, AV.und, AV.und, AV.und, AV.und, AV.r (RV.c (CV.f (FV.i IntKind.u64 d.snd.snd.snd.snd.snd.snd.snd.snd.snd.fst))),
    AV.r (RV.c (CV.f (FV.b d.snd.snd.snd.snd.snd.snd.snd.snd.snd.snd.fst))), AV.r (RV.c (CV.f (FV.b false))), AV.r (RV.c (CV.f (FV.i IntKind.u64 d.snd.snd.snd.snd.snd.snd.snd.snd.snd.fst))),
    AV.r (RV.c (CV.f (FV.i IntKind.u64 d.snd.snd.snd.fst))), AV.r (RV.c (CV.f (FV.i IntKind.u64 d.snd.snd.snd.snd.snd.snd.snd.snd.snd.snd.snd.fst))),
    AV.r (RV.c (CV.f (FV.i IntKind.u64 d.snd.snd.snd.snd.snd.snd.snd.snd.snd.snd.snd.snd.fst))), AV.r (RV.c (CV.f (FV.i IntKind.u64 d.snd.snd.snd.snd.snd.snd.snd.snd.snd.snd.snd.snd.snd.fst))),
    AV.r (RV.c (CV.f (FV.i IntKind.u64 d.snd.snd.snd.snd.fst))), AV.r (RV.c (CV.f (FV.i IntKind.u64 d.snd.snd.snd.snd.snd.snd.snd.snd.snd.snd.snd.snd.snd.snd.fst))),
    AV.r (RV.c (CV.f (FV.b d.snd.snd.snd.snd.snd.snd.snd.snd.snd.snd.snd.snd.snd.snd.snd.fst))), AV.r (RV.c (CV.f (FV.b d.snd.snd.snd.snd.snd.snd.snd.snd.snd.snd.snd.snd.snd.snd.snd.fst))),
    AV.r (RV.c (CV.f (FV.i IntKind.u64 d.snd.snd.snd.snd.snd.snd.snd.snd.snd.fst))), AV.r (RV.c (CV.f (FV.i IntKind.u64 d.snd.snd.snd.snd.snd.snd.snd.snd.fst))),
    AV.r (RV.c (CV.f (FV.i IntKind.u64 d.snd.snd.snd.snd.snd.snd.snd.snd.snd.snd.snd.snd.fst))), AV.r (RV.c (CV.f (FV.i IntKind.u64 d.snd.snd.fst))),
    AV.r (RV.c (CV.f (FV.i IntKind.u64 d.snd.snd.snd.snd.snd.snd.fst))), AV.r (RV.c (CV.f (FV.i IntKind.u64 d.snd.snd.snd.snd.snd.snd.fst))),
    AV.r (RV.c (CV.f (FV.b d.snd.snd.snd.snd.snd.snd.snd.snd.snd.snd.snd.snd.snd.snd.snd.snd))), AV.und, AV.und, AV.und, AV.und, AV.und, AV.und, AV.und, AV.und, AV.und, AV.und, AV.und, AV.und, AV.und,
    AV.und]
  [] [])) (fun d => K (AX.ex 2) (St.mk
  [AV.und, AV.und, AV.r (RV.c (CV.f (FV.i IntKind.u64 d.fst))), AV.und, AV.und, AV.und, AV.und, AV.und, AV.r (RV.c (CV.f (FV.i IntKind.u64 d.snd.fst))),
    AV.r (RV.c (CV.f (FV.i IntKind.u64 d.snd.snd.fst))), AV.r (RV.c (CV.f (FV.i IntKind.u64 d.snd.snd.snd.fst))), AV.und, AV.und, AV.und, AV.r (RV.c (CV.f (FV.i IntKind.u64 d.snd.snd.snd.snd.fst))),
    AV.r (RV.c (CV.f (FV.i IntKind.u64 d.snd.snd.snd.snd.snd.fst))), AV.r (RV.c (CV.f (FV.i IntKind.u64 d.snd.snd.snd.snd.snd.snd.fst))),
    AV.r (RV.c (CV.f (FV.i IntKind.u64 d.snd.snd.snd.snd.snd.snd.snd.fst))), AV.r (RV.c (CV.f (FV.i IntKind.u64 d.snd.snd.snd.snd.snd.snd.snd.snd.fst))), AV.und, AV.und, AV.und, AV.und, AV.und,
    AV.und, AV.und, AV.und, AV.und, AV.und, AV.und, AV.und, AV.und, AV.und, AV.und, AV.und, AV.und, AV.und, AV.und, AV.und, AV.und, AV.und, AV.und, AV.und, AV.und, AV.und, AV.und, AV.und, AV.und,
    AV.und, AV.und, AV.und, AV.und, AV.und, AV.und, AV.und, AV.und, AV.und, AV.und, AV.und, AV.und, AV.und, AV.und, AV.und, AV.und, AV.und, AV.und, AV.und, AV.und, AV.und, AV.und, AV.und, AV.und,
    AV.und, AV.und, AV.und, AV.und, AV.und, AV.und, AV.und, AV.und, AV.und, AV.und, AV.und, AV.und, AV.und, AV.und, AV.und, AV.und, AV.und, AV.und, AV.und, AV.und, AV.und, AV.und, AV.und, AV.und,
    AV.und, AV.und, AV.und, AV.und, AV.und, AV.und, AV.r (RV.c (CV.f (FV.i IntKind.u64 d.snd.snd.snd.snd.snd.snd.snd.snd.fst))), AV.r (RV.c (CV.f (FV.b d.snd.snd.snd.snd.snd.snd.snd.snd.snd.fst))),
    AV.r (RV.c (CV.f (FV.b false))), AV.r (RV.c (CV.f (FV.i IntKind.u64 d.snd.snd.snd.snd.snd.snd.snd.snd.fst))), AV.r (RV.c (CV.f (FV.i IntKind.u64 d.snd.snd.snd.fst))),
    AV.r (RV.c (CV.f (FV.i IntKind.u64 d.snd.snd.snd.snd.snd.snd.snd.snd.snd.snd.fst))), AV.r (RV.c (CV.f (FV.i IntKind.u64 d.snd.snd.snd.snd.snd.snd.fst))),
    AV.r (RV.c (CV.f (FV.i IntKind.u64 d.snd.snd.snd.snd.snd.snd.snd.snd.snd.snd.snd.fst))), AV.r (RV.c (CV.f (FV.i IntKind.u64 d.snd.snd.snd.snd.fst))),
    AV.r (RV.c (CV.f (FV.i IntKind.u64 d.snd.snd.snd.snd.snd.snd.snd.snd.snd.snd.snd.snd.fst))), AV.r (RV.c (CV.f (FV.b d.snd.snd.snd.snd.snd.snd.snd.snd.snd.snd.snd.snd.snd))),
    AV.r (RV.c (CV.f (FV.b d.snd.snd.snd.snd.snd.snd.snd.snd.snd.snd.snd.snd.snd))), AV.und, AV.und, AV.und, AV.und, AV.und, AV.und, AV.und, AV.und, AV.und, AV.und, AV.und, AV.und, AV.und, AV.und,
    AV.und, AV.und, AV.und, AV.und, AV.und, AV.und, AV.und]
  [] [])))))
    (fun d c => ds_math_bits_Div64_1 f_math_bits_LeadingZeros64 (@L_math_bits_Div64_0) (@L_math_bits_Div64_1) d.1 d.2.1 d.2.2.1 d.2.2.2.1 d.2.2.2.2.1 d.2.2.2.2.2.1 d.2.2.2.2.2.2.1 d.2.2.2.2.2.2.2.1 d.2.2.2.2.2.2.2.2 c K) 200 (x0, x1, x2, x3, x4, x5, x6, x7, x8)
theorem so_math_bits_Div64_1 : ∀ kk, SumOK Try.prog (envOf [(89, F_math_bits_LeadingZeros64 f_math_bits_LeadingZeros64)]) ⟨[⟨17, [0, 1, 3, 4, 5, 6, 7, 12, 17, 18, 19, 20, 21, 22, 23, 24, 25, 26, 27, 28, 29, 30, 31, 32, 33, 34, 35, 36, 37, 38, 39, 40, 41, 42, 43, 44, 45, 46, 47, 48, 49, 50, 51, 52, 53, 54, 55, 56, 57, 58, 59, 60, 61, 62, 63, 64, 65, 66, 67, 68, 69, 78, 79, 80, 81, 82, 83, 84, 85, 86, 87, 88, 89, 90, 91, 92, 93, 94, 95, 96, 97, 98, 99, 100, 101, 102, 103, 104, 113, 114, 115, 116, 117, 118, 119, 120, 121, 122, 123, 124, 125, 126, 127, 128, 129, 130, 131, 132, 133, 134, 70, 71, 72, 73, 74, 75, 76, 77], []⟩, ⟨24, [0, 1, 3, 4, 5, 6, 7, 11, 12, 13, 19, 20, 21, 22, 23, 24, 25, 26, 27, 28, 29, 30, 31, 32, 33, 34, 35, 36, 37, 38, 39, 40, 41, 42, 43, 44, 45, 46, 47, 48, 49, 50, 51, 52, 53, 54, 55, 56, 57, 58, 59, 60, 61, 62, 63, 64, 65, 66, 67, 68, 69, 70, 71, 72, 73, 74, 75, 76, 77, 78, 79, 80, 81, 82, 83, 84, 85, 86, 87, 88, 89, 90, 91, 92, 93, 94, 95, 96, 97, 98, 99, 100, 101, 102, 103, 104, 113, 114, 115, 116, 117, 118, 119, 120, 121, 122, 123, 124, 125, 126, 127, 128, 129, 130, 131, 132, 133, 134, 105, 106, 107, 108, 109, 110, 111, 112], []⟩], [⟨17, 0, @R_math_bits_Div64_0 (@L_math_bits_Div64_0)⟩, ⟨24, 0, @R_math_bits_Div64_1 (@L_math_bits_Div64_1)⟩], [], [], none⟩ (tmpsOf Try.prog 54) kk 200 (loopIn Try.prog 54 24) :=
  SumOK.of (id := 24) (k0 := 0) (run := @R_math_bits_Div64_1 (@L_math_bits_Div64_1)) (by kernel_rfl) fun s K r hr => by
    unfold R_math_bits_Div64_1 at hr
    obtain ⟨b, hb, hr1⟩ := Option.bind_eq_some_iff.1 hr
    have e := ((Q_math_bits_Div64_1).ok s b hb).trans (q_math_bits_Div64_1 b)
    subst e
    exact ⟨200, (it_math_bits_Div64_1 b.1.2.2.1 b.1.2.2.2.2.2.2.2.2.1 b.1.2.2.2.2.2.2.2.2.2.1 b.1.2.2.2.2.2.2.2.2.2.2.1 b.1.2.2.2.2.2.2.2.2.2.2.2.2.2.2.1 b.1.2.2.2.2.2.2.2.2.2.2.2.2.2.2.2.1 b.1.2.2.2.2.2.2.2.2.2.2.2.2.2.2.2.2.1 b.1.2.2.2.2.2.2.2.2.2.2.2.2.2.2.2.2.2.1 b.1.2.2.2.2.2.2.2.2.2.2.2.2.2.2.2.2.2.2.1 K).trans hr1⟩
def K_math_bits_Div64 {ρ : Type} (g_math_bits_LeadingZeros64 : Int → Option Int) (l_0 : ∀ {ρ : Type}, (Int × Int × Int × Int × Int × Int × Int × Int × Int) → ((Int × Int × Int × Int × Int × Int × Int × Int × Int × Int × Bool × Int × Bool ⊕
  Int × Int × Int × Int × Int × Int × Int × Int × Int × Int × Bool × Int × Int × Int × Int × Bool × Bool ⊕ Int × Int × Int × Int × Int × Int × Int × Int × Int × Bool × Int × Int × Int × Bool) → Option ρ) → Option ρ) (l_1 : ∀ {ρ : Type}, (Int × Int × Int × Int × Int × Int × Int × Int × Int) → ((Int × Int × Int × Int × Int × Int × Int × Int × Int × Int × Bool × Int × Bool ⊕
  Int × Int × Int × Int × Int × Int × Int × Int × Int × Int × Bool × Int × Int × Int × Int × Bool × Bool ⊕ Int × Int × Int × Int × Int × Int × Int × Int × Int × Bool × Int × Int × Int × Bool) → Option ρ) → Option ρ) (x0 : Int) (x1 : Int) (x2 : Int) (k : (Int × Int) → Option ρ) : Option ρ :=
  bif x2 == 0 then none
  else
    bif decide (x2 ≤ x0) then none
    else
      bif x0 == 0 then bif !decide (x2 = 0) then bif !decide (x2 = 0) then k (IntKind.wrap IntKind.u64 (Int.tdiv x1 x2), Int.tmod x1 x2) else none else none
      else
        Option.bind (g_math_bits_LeadingZeros64 x2) fun (d : Int) =>
          bif !decide (IntKind.wrap IntKind.u64 d < 0) then
            bif !decide (IntKind.wrap IntKind.u64 d < 0) then
              bif !decide (IntKind.wrap IntKind.u64 (64 - IntKind.wrap IntKind.u64 d) < 0) then
                bif !decide (IntKind.wrap IntKind.u64 d < 0) then
                  bif !decide (Int.fdiv (IntKind.wrap IntKind.u64 (x2 * 2 ^ min (Int.toNat (IntKind.wrap IntKind.u64 d)) 64)) 4294967296 = 0) then
                    l_0
                      (IntKind.wrap IntKind.u64 (x2 * 2 ^ min (Int.toNat (IntKind.wrap IntKind.u64 d)) 64), IntKind.wrap IntKind.u64 d,
                        Int.fdiv (IntKind.wrap IntKind.u64 (x2 * 2 ^ min (Int.toNat (IntKind.wrap IntKind.u64 d)) 64)) 4294967296,
                        IntKind.wrap IntKind.u64
                          (Int.ofNat (BitVec.toNat (BitVec.ofInt 64 (IntKind.wrap IntKind.u64 (x2 * 2 ^ min (Int.toNat (IntKind.wrap IntKind.u64 d)) 64)) &&& BitVec.ofInt 64 4294967295))),
                        IntKind.wrap IntKind.u64
                          (Int.ofNat
                            (BitVec.toNat
                              (BitVec.ofInt 64 (IntKind.wrap IntKind.u64 (x0 * 2 ^ min (Int.toNat (IntKind.wrap IntKind.u64 d)) 64)) |||
                                BitVec.ofInt 64 (Int.fdiv x1 (2 ^ min (Int.toNat (IntKind.wrap IntKind.u64 (64 - IntKind.wrap IntKind.u64 d))) 64))))),
                        Int.fdiv (IntKind.wrap IntKind.u64 (x1 * 2 ^ min (Int.toNat (IntKind.wrap IntKind.u64 d)) 64)) 4294967296,
                        IntKind.wrap IntKind.u64
                          (Int.ofNat (BitVec.toNat (BitVec.ofInt 64 (IntKind.wrap IntKind.u64 (x1 * 2 ^ min (Int.toNat (IntKind.wrap IntKind.u64 d)) 64)) &&& BitVec.ofInt 64 4294967295))),
                        IntKind.wrap IntKind.u64
                          (Int.tdiv
                            (IntKind.wrap IntKind.u64
                              (Int.ofNat
                                (BitVec.toNat
                                  (BitVec.ofInt 64 (IntKind.wrap IntKind.u64 (x0 * 2 ^ min (Int.toNat (IntKind.wrap IntKind.u64 d)) 64)) |||
                                    BitVec.ofInt 64 (Int.fdiv x1 (2 ^ min (Int.toNat (IntKind.wrap IntKind.u64 (64 - IntKind.wrap IntKind.u64 d))) 64))))))
                            (Int.fdiv (IntKind.wrap IntKind.u64 (x2 * 2 ^ min (Int.toNat (IntKind.wrap IntKind.u64 d)) 64)) 4294967296)),
                        IntKind.wrap IntKind.u64
                          (IntKind.wrap IntKind.u64
                              (Int.ofNat
                                (BitVec.toNat
                                  (BitVec.ofInt 64 (IntKind.wrap IntKind.u64 (x0 * 2 ^ min (Int.toNat (IntKind.wrap IntKind.u64 d)) 64)) |||
                                    BitVec.ofInt 64 (Int.fdiv x1 (2 ^ min (Int.toNat (IntKind.wrap IntKind.u64 (64 - IntKind.wrap IntKind.u64 d))) 64))))) -
                            IntKind.wrap IntKind.u64
                              (IntKind.wrap IntKind.u64
                                  (Int.tdiv
                                    (IntKind.wrap IntKind.u64
                                      (Int.ofNat
                                        (BitVec.toNat
                                          (BitVec.ofInt 64 (IntKind.wrap IntKind.u64 (x0 * 2 ^ min (Int.toNat (IntKind.wrap IntKind.u64 d)) 64)) |||
                                            BitVec.ofInt 64 (Int.fdiv x1 (2 ^ min (Int.toNat (IntKind.wrap IntKind.u64 (64 - IntKind.wrap IntKind.u64 d))) 64))))))
                                    (Int.fdiv (IntKind.wrap IntKind.u64 (x2 * 2 ^ min (Int.toNat (IntKind.wrap IntKind.u64 d)) 64)) 4294967296)) *
                                Int.fdiv (IntKind.wrap IntKind.u64 (x2 * 2 ^ min (Int.toNat (IntKind.wrap IntKind.u64 d)) 64)) 4294967296)))
                      (Sum.elim
                        (fun (d : Int × Int × Int × Int × Int × Int × Int × Int × Int × Int × Bool × Int × Bool) =>
                          bif !decide (d.snd.snd.fst = 0) then
                            l_1
                              (d.fst, d.snd.fst, d.snd.snd.fst, d.snd.snd.snd.fst, d.snd.snd.snd.snd.snd.snd.fst, d.snd.snd.snd.snd.snd.snd.snd.fst,
                                IntKind.wrap IntKind.u64
                                  (IntKind.wrap IntKind.u64
                                      (IntKind.wrap IntKind.u64 (IntKind.wrap IntKind.u64 (d.snd.snd.snd.snd.fst * 4294967296) + d.snd.snd.snd.snd.snd.fst) -
                                        IntKind.wrap IntKind.u64 (d.snd.snd.snd.snd.snd.snd.snd.fst * d.fst)) -
                                    IntKind.wrap IntKind.u64
                                      (IntKind.wrap IntKind.u64
                                          (Int.tdiv
                                            (IntKind.wrap IntKind.u64
                                              (IntKind.wrap IntKind.u64 (IntKind.wrap IntKind.u64 (d.snd.snd.snd.snd.fst * 4294967296) + d.snd.snd.snd.snd.snd.fst) -
                                                IntKind.wrap IntKind.u64 (d.snd.snd.snd.snd.snd.snd.snd.fst * d.fst)))
                                            d.snd.snd.fst) *
                                        d.snd.snd.fst)),
                                IntKind.wrap IntKind.u64
                                  (IntKind.wrap IntKind.u64 (IntKind.wrap IntKind.u64 (d.snd.snd.snd.snd.fst * 4294967296) + d.snd.snd.snd.snd.snd.fst) -
                                    IntKind.wrap IntKind.u64 (d.snd.snd.snd.snd.snd.snd.snd.fst * d.fst)),
                                IntKind.wrap IntKind.u64
                                  (Int.tdiv
                                    (IntKind.wrap IntKind.u64
                                      (IntKind.wrap IntKind.u64 (IntKind.wrap IntKind.u64 (d.snd.snd.snd.snd.fst * 4294967296) + d.snd.snd.snd.snd.snd.fst) -
                                        IntKind.wrap IntKind.u64 (d.snd.snd.snd.snd.snd.snd.snd.fst * d.fst)))
                                    d.snd.snd.fst))
                              (Sum.elim
                                (fun (d : Int × Int × Int × Int × Int × Int × Int × Int × Int × Int × Bool × Int × Bool) =>
                                  bif !decide (d.snd.fst < 0) then
                                    k
                                      (IntKind.wrap IntKind.u64 (IntKind.wrap IntKind.u64 (d.snd.snd.snd.snd.snd.fst * 4294967296) + d.snd.snd.snd.snd.snd.snd.snd.snd.fst),
                                        Int.fdiv
                                          (IntKind.wrap IntKind.u64
                                            (IntKind.wrap IntKind.u64 (IntKind.wrap IntKind.u64 (d.snd.snd.snd.snd.snd.snd.snd.fst * 4294967296) + d.snd.snd.snd.snd.fst) -
                                              IntKind.wrap IntKind.u64 (d.snd.snd.snd.snd.snd.snd.snd.snd.fst * d.fst)))
                                          (2 ^ min (Int.toNat d.snd.fst) 64))
                                  else none)
                                (Sum.elim
                                  (fun (d : Int × Int × Int × Int × Int × Int × Int × Int × Int × Int × Bool × Int × Int × Int × Int × Bool × Bool) =>
                                    bif !decide (d.snd.fst < 0) then
                                      k
                                        (IntKind.wrap IntKind.u64 (IntKind.wrap IntKind.u64 (d.snd.snd.snd.snd.snd.fst * 4294967296) + d.snd.snd.snd.snd.snd.snd.snd.snd.fst),
                                          Int.fdiv
                                            (IntKind.wrap IntKind.u64
                                              (IntKind.wrap IntKind.u64 (IntKind.wrap IntKind.u64 (d.snd.snd.snd.snd.snd.snd.snd.fst * 4294967296) + d.snd.snd.snd.snd.fst) -
                                                IntKind.wrap IntKind.u64 (d.snd.snd.snd.snd.snd.snd.snd.snd.fst * d.fst)))
                                            (2 ^ min (Int.toNat d.snd.fst) 64))
                                    else none)
                                  fun (d : Int × Int × Int × Int × Int × Int × Int × Int × Int × Bool × Int × Int × Int × Bool) =>
                                  bif !decide (d.snd.fst < 0) then
                                    k
                                      (IntKind.wrap IntKind.u64 (IntKind.wrap IntKind.u64 (d.snd.snd.snd.snd.snd.fst * 4294967296) + d.snd.snd.snd.snd.snd.snd.snd.snd.fst),
                                        Int.fdiv
                                          (IntKind.wrap IntKind.u64
                                            (IntKind.wrap IntKind.u64 (IntKind.wrap IntKind.u64 (d.snd.snd.snd.snd.snd.snd.snd.fst * 4294967296) + d.snd.snd.snd.snd.fst) -
                                              IntKind.wrap IntKind.u64 (d.snd.snd.snd.snd.snd.snd.snd.snd.fst * d.fst)))
                                          (2 ^ min (Int.toNat d.snd.fst) 64))
                                  else none))
                          else none)
                        (Sum.elim
                          (fun (d : Int × Int × Int × Int × Int × Int × Int × Int × Int × Int × Bool × Int × Int × Int × Int × Bool × Bool) =>
                            bif !decide (d.snd.snd.fst = 0) then
                              l_1
                                (d.fst, d.snd.fst, d.snd.snd.fst, d.snd.snd.snd.fst, d.snd.snd.snd.snd.snd.snd.fst, d.snd.snd.snd.snd.snd.snd.snd.fst,
                                  IntKind.wrap IntKind.u64
                                    (IntKind.wrap IntKind.u64
                                        (IntKind.wrap IntKind.u64 (IntKind.wrap IntKind.u64 (d.snd.snd.snd.snd.fst * 4294967296) + d.snd.snd.snd.snd.snd.fst) -
                                          IntKind.wrap IntKind.u64 (d.snd.snd.snd.snd.snd.snd.snd.fst * d.fst)) -
                                      IntKind.wrap IntKind.u64
                                        (IntKind.wrap IntKind.u64
                                            (Int.tdiv
                                              (IntKind.wrap IntKind.u64
                                                (IntKind.wrap IntKind.u64 (IntKind.wrap IntKind.u64 (d.snd.snd.snd.snd.fst * 4294967296) + d.snd.snd.snd.snd.snd.fst) -
                                                  IntKind.wrap IntKind.u64 (d.snd.snd.snd.snd.snd.snd.snd.fst * d.fst)))
                                              d.snd.snd.fst) *
                                          d.snd.snd.fst)),
                                  IntKind.wrap IntKind.u64
                                    (IntKind.wrap IntKind.u64 (IntKind.wrap IntKind.u64 (d.snd.snd.snd.snd.fst * 4294967296) + d.snd.snd.snd.snd.snd.fst) -
                                      IntKind.wrap IntKind.u64 (d.snd.snd.snd.snd.snd.snd.snd.fst * d.fst)),
                                  IntKind.wrap IntKind.u64
                                    (Int.tdiv
                                      (IntKind.wrap IntKind.u64
                                        (IntKind.wrap IntKind.u64 (IntKind.wrap IntKind.u64 (d.snd.snd.snd.snd.fst * 4294967296) + d.snd.snd.snd.snd.snd.fst) -
                                          IntKind.wrap IntKind.u64 (d.snd.snd.snd.snd.snd.snd.snd.fst * d.fst)))
                                      d.snd.snd.fst))
                                (Sum.elim
                                  (fun (d : Int × Int × Int × Int × Int × Int × Int × Int × Int × Int × Bool × Int × Bool) =>
                                    bif !decide (d.snd.fst < 0) then
                                      k
                                        (IntKind.wrap IntKind.u64 (IntKind.wrap IntKind.u64 (d.snd.snd.snd.snd.snd.fst * 4294967296) + d.snd.snd.snd.snd.snd.snd.snd.snd.fst),
                                          Int.fdiv
                                            (IntKind.wrap IntKind.u64
                                              (IntKind.wrap IntKind.u64 (IntKind.wrap IntKind.u64 (d.snd.snd.snd.snd.snd.snd.snd.fst * 4294967296) + d.snd.snd.snd.snd.fst) -
                                                IntKind.wrap IntKind.u64 (d.snd.snd.snd.snd.snd.snd.snd.snd.fst * d.fst)))
                                            (2 ^ min (Int.toNat d.snd.fst) 64))
                                    else none)
                                  (Sum.elim
                                    (fun (d : Int × Int × Int × Int × Int × Int × Int × Int × Int × Int × Bool × Int × Int × Int × Int × Bool × Bool) =>
                                      bif !decide (d.snd.fst < 0) then
                                        k
                                          (IntKind.wrap IntKind.u64 (IntKind.wrap IntKind.u64 (d.snd.snd.snd.snd.snd.fst * 4294967296) + d.snd.snd.snd.snd.snd.snd.snd.snd.fst),
                                            Int.fdiv
                                              (IntKind.wrap IntKind.u64
                                                (IntKind.wrap IntKind.u64 (IntKind.wrap IntKind.u64 (d.snd.snd.snd.snd.snd.snd.snd.fst * 4294967296) + d.snd.snd.snd.snd.fst) -
                                                  IntKind.wrap IntKind.u64 (d.snd.snd.snd.snd.snd.snd.snd.snd.fst * d.fst)))
                                              (2 ^ min (Int.toNat d.snd.fst) 64))
                                      else none)
                                    fun (d : Int × Int × Int × Int × Int × Int × Int × Int × Int × Bool × Int × Int × Int × Bool) =>
                                    bif !decide (d.snd.fst < 0) then
                                      k
                                        (IntKind.wrap IntKind.u64 (IntKind.wrap IntKind.u64 (d.snd.snd.snd.snd.snd.fst * 4294967296) + d.snd.snd.snd.snd.snd.snd.snd.snd.fst),
                                          Int.fdiv
                                            (IntKind.wrap IntKind.u64
                                              (IntKind.wrap IntKind.u64 (IntKind.wrap IntKind.u64 (d.snd.snd.snd.snd.snd.snd.snd.fst * 4294967296) + d.snd.snd.snd.snd.fst) -
                                                IntKind.wrap IntKind.u64 (d.snd.snd.snd.snd.snd.snd.snd.snd.fst * d.fst)))
                                            (2 ^ min (Int.toNat d.snd.fst) 64))
                                    else none))
                            else none)
                          fun (d : Int × Int × Int × Int × Int × Int × Int × Int × Int × Bool × Int × Int × Int × Bool) =>
                          bif !decide (d.snd.snd.fst = 0) then
                            l_1
                              (d.fst, d.snd.fst, d.snd.snd.fst, d.snd.snd.snd.fst, d.snd.snd.snd.snd.snd.snd.fst, d.snd.snd.snd.snd.snd.snd.snd.fst,
                                IntKind.wrap IntKind.u64
                                  (IntKind.wrap IntKind.u64
                                      (IntKind.wrap IntKind.u64 (IntKind.wrap IntKind.u64 (d.snd.snd.snd.snd.fst * 4294967296) + d.snd.snd.snd.snd.snd.fst) -
                                        IntKind.wrap IntKind.u64 (d.snd.snd.snd.snd.snd.snd.snd.fst * d.fst)) -
                                    IntKind.wrap IntKind.u64
                                      (IntKind.wrap IntKind.u64
                                          (Int.tdiv
                                            (IntKind.wrap IntKind.u64
                                              (IntKind.wrap IntKind.u64 (IntKind.wrap IntKind.u64 (d.snd.snd.snd.snd.fst * 4294967296) + d.snd.snd.snd.snd.snd.fst) -
                                                IntKind.wrap IntKind.u64 (d.snd.snd.snd.snd.snd.snd.snd.fst * d.fst)))
                                            d.snd.snd.fst) *
                                        d.snd.snd.fst)),
                                IntKind.wrap IntKind.u64
                                  (IntKind.wrap IntKind.u64 (IntKind.wrap IntKind.u64 (d.snd.snd.snd.snd.fst * 4294967296) + d.snd.snd.snd.snd.snd.fst) -
                                    IntKind.wrap IntKind.u64 (d.snd.snd.snd.snd.snd.snd.snd.fst * d.fst)),
                                IntKind.wrap IntKind.u64
                                  (Int.tdiv
                                    (IntKind.wrap IntKind.u64
                                      (IntKind.wrap IntKind.u64 (IntKind.wrap IntKind.u64 (d.snd.snd.snd.snd.fst * 4294967296) + d.snd.snd.snd.snd.snd.fst) -
                                        IntKind.wrap IntKind.u64 (d.snd.snd.snd.snd.snd.snd.snd.fst * d.fst)))
                                    d.snd.snd.fst))
                              (Sum.elim
                                (fun (d : Int × Int × Int × Int × Int × Int × Int × Int × Int × Int × Bool × Int × Bool) =>
                                  bif !decide (d.snd.fst < 0) then
                                    k
                                      (IntKind.wrap IntKind.u64 (IntKind.wrap IntKind.u64 (d.snd.snd.snd.snd.snd.fst * 4294967296) + d.snd.snd.snd.snd.snd.snd.snd.snd.fst),
                                        Int.fdiv
                                          (IntKind.wrap IntKind.u64
                                            (IntKind.wrap IntKind.u64 (IntKind.wrap IntKind.u64 (d.snd.snd.snd.snd.snd.snd.snd.fst * 4294967296) + d.snd.snd.snd.snd.fst) -
                                              IntKind.wrap IntKind.u64 (d.snd.snd.snd.snd.snd.snd.snd.snd.fst * d.fst)))
                                          (2 ^ min (Int.toNat d.snd.fst) 64))
                                  else none)
                                (Sum.elim
                                  (fun (d : Int × Int × Int × Int × Int × Int × Int × Int × Int × Int × Bool × Int × Int × Int × Int × Bool × Bool) =>
                                    bif !decide (d.snd.fst < 0) then
                                      k
                                        (IntKind.wrap IntKind.u64 (IntKind.wrap IntKind.u64 (d.snd.snd.snd.snd.snd.fst * 4294967296) + d.snd.snd.snd.snd.snd.snd.snd.snd.fst),
                                          Int.fdiv
                                            (IntKind.wrap IntKind.u64
                                              (IntKind.wrap IntKind.u64 (IntKind.wrap IntKind.u64 (d.snd.snd.snd.snd.snd.snd.snd.fst * 4294967296) + d.snd.snd.snd.snd.fst) -
                                                IntKind.wrap IntKind.u64 (d.snd.snd.snd.snd.snd.snd.snd.snd.fst * d.fst)))
                                            (2 ^ min (Int.toNat d.snd.fst) 64))
                                    else none)
                                  fun (d : Int × Int × Int × Int × Int × Int × Int × Int × Int × Bool × Int × Int × Int × Bool) =>
                                  bif !decide (d.snd.fst < 0) then
                                    k
                                      (IntKind.wrap IntKind.u64 (IntKind.wrap IntKind.u64 (d.snd.snd.snd.snd.snd.fst * 4294967296) + d.snd.snd.snd.snd.snd.snd.snd.snd.fst),
                                        Int.fdiv
                                          (IntKind.wrap IntKind.u64
                                            (IntKind.wrap IntKind.u64 (IntKind.wrap IntKind.u64 (d.snd.snd.snd.snd.snd.snd.snd.fst * 4294967296) + d.snd.snd.snd.snd.fst) -
                                              IntKind.wrap IntKind.u64 (d.snd.snd.snd.snd.snd.snd.snd.snd.fst * d.fst)))
                                          (2 ^ min (Int.toNat d.snd.fst) 64))
                                  else none))
                          else none))
                  else none
                else none
              else none
            else none
          else none
def f_math_bits_Div64 (x0 : Int) (x1 : Int) (x2 : Int) : Option (Int × Int) := K_math_bits_Div64 f_math_bits_LeadingZeros64 (@L_math_bits_Div64_0) (@L_math_bits_Div64_1) x0 x1 x2 some
section
open Go.Ab.Rdr
def QA_math_bits_Div64 := ((pair (cons (ar (rc (cf (fi .u64 hole)))) (cons (ar (rc (cf (fi .u64 hole)))) (cons (ar (rc (cf (fi .u64 hole)))) nil))) nil) : Rdr (List AV × List Blk) _)
end
def F_math_bits_Div64 (f : (Int) → (Int) → (Int) → Option (Int × Int)) : Sem1 := fun args h => match (QA_math_bits_Div64).rd (args, h) with
  | some b => .opt (f b.1.1 b.1.2.1 b.1.2.2.1) fun (d : Int × Int) => .leaf (Res.mk (AV.tup [RV.c (CV.f (FV.i IntKind.u64 d.fst)), RV.c (CV.f (FV.i IntKind.u64 d.snd))]) [] [])
  | none => .fail
theorem d_math_bits_Div64 (g_math_bits_LeadingZeros64 : Int → Option Int) (l_0 : ∀ {ρ : Type}, (Int × Int × Int × Int × Int × Int × Int × Int × Int) → ((Int × Int × Int × Int × Int × Int × Int × Int × Int × Int × Bool × Int × Bool ⊕
  Int × Int × Int × Int × Int × Int × Int × Int × Int × Int × Bool × Int × Int × Int × Int × Bool × Bool ⊕ Int × Int × Int × Int × Int × Int × Int × Int × Int × Bool × Int × Int × Int × Bool) → Option ρ) → Option ρ) (l_1 : ∀ {ρ : Type}, (Int × Int × Int × Int × Int × Int × Int × Int × Int) → ((Int × Int × Int × Int × Int × Int × Int × Int × Int × Int × Bool × Int × Bool ⊕
  Int × Int × Int × Int × Int × Int × Int × Int × Int × Int × Bool × Int × Int × Int × Int × Bool × Bool ⊕ Int × Int × Int × Int × Int × Int × Int × Int × Int × Bool × Int × Int × Int × Bool) → Option ρ) → Option ρ) (x0 : Int) (x1 : Int) (x2 : Int) : den Try.prog (envOf [(89, F_math_bits_LeadingZeros64 g_math_bits_LeadingZeros64)]) ⟨[⟨17, [0, 1, 3, 4, 5, 6, 7, 12, 17, 18, 19, 20, 21, 22, 23, 24, 25, 26, 27, 28, 29, 30, 31, 32, 33, 34, 35, 36, 37, 38, 39, 40, 41, 42, 43, 44, 45, 46, 47, 48, 49, 50, 51, 52, 53, 54, 55, 56, 57, 58, 59, 60, 61, 62, 63, 64, 65, 66, 67, 68, 69, 78, 79, 80, 81, 82, 83, 84, 85, 86, 87, 88, 89, 90, 91, 92, 93, 94, 95, 96, 97, 98, 99, 100, 101, 102, 103, 104, 113, 114, 115, 116, 117, 118, 119, 120, 121, 122, 123, 124, 125, 126, 127, 128, 129, 130, 131, 132, 133, 134, 70, 71, 72, 73, 74, 75, 76, 77], []⟩, ⟨24, [0, 1, 3, 4, 5, 6, 7, 11, 12, 13, 19, 20, 21, 22, 23, 24, 25, 26, 27, 28, 29, 30, 31, 32, 33, 34, 35, 36, 37, 38, 39, 40, 41, 42, 43, 44, 45, 46, 47, 48, 49, 50, 51, 52, 53, 54, 55, 56, 57, 58, 59, 60, 61, 62, 63, 64, 65, 66, 67, 68, 69, 70, 71, 72, 73, 74, 75, 76, 77, 78, 79, 80, 81, 82, 83, 84, 85, 86, 87, 88, 89, 90, 91, 92, 93, 94, 95, 96, 97, 98, 99, 100, 101, 102, 103, 104, 113, 114, 115, 116, 117, 118, 119, 120, 121, 122, 123, 124, 125, 126, 127, 128, 129, 130, 131, 132, 133, 134, 105, 106, 107, 108, 109, 110, 111, 112], []⟩], [⟨17, 0, @R_math_bits_Div64_0 (@l_0)⟩, ⟨24, 0, @R_math_bits_Div64_1 (@l_1)⟩], [], [], none⟩ 200 54 [.r (.c (.f (.i .u64 x0))), .r (.c (.f (.i .u64 x1))), .r (.c (.f (.i .u64 x2)))] [] =
    K_math_bits_Div64 g_math_bits_LeadingZeros64 (@l_0) (@l_1) x0 x1 x2 (fun (d : Int × Int) => some (Res.mk (AV.tup [RV.c (CV.f (FV.i IntKind.u64 d.fst)), RV.c (CV.f (FV.i IntKind.u64 d.snd))]) [] [])) := by kernel_rfl
theorem m_math_bits_Div64 {ρ σ : Type} (q : ρ → Option σ) (g_math_bits_LeadingZeros64 : Int → Option Int) (l_0 : ∀ {ρ : Type}, (Int × Int × Int × Int × Int × Int × Int × Int × Int) → ((Int × Int × Int × Int × Int × Int × Int × Int × Int × Int × Bool × Int × Bool ⊕
  Int × Int × Int × Int × Int × Int × Int × Int × Int × Int × Bool × Int × Int × Int × Int × Bool × Bool ⊕ Int × Int × Int × Int × Int × Int × Int × Int × Int × Bool × Int × Int × Int × Bool) → Option ρ) → Option ρ) (l_1 : ∀ {ρ : Type}, (Int × Int × Int × Int × Int × Int × Int × Int × Int) → ((Int × Int × Int × Int × Int × Int × Int × Int × Int × Int × Bool × Int × Bool ⊕
  Int × Int × Int × Int × Int × Int × Int × Int × Int × Int × Bool × Int × Int × Int × Int × Bool × Bool ⊕ Int × Int × Int × Int × Int × Int × Int × Int × Int × Bool × Int × Int × Int × Bool) → Option ρ) → Option ρ) (hl_0 : ∀ {ρ σ : Type} (q : ρ → Option σ) (d : Int × Int × Int × Int × Int × Int × Int × Int × Int) (k : (Int × Int × Int × Int × Int × Int × Int × Int × Int × Int × Bool × Int × Bool ⊕
  Int × Int × Int × Int × Int × Int × Int × Int × Int × Int × Bool × Int × Int × Int × Int × Bool × Bool ⊕ Int × Int × Int × Int × Int × Int × Int × Int × Int × Bool × Int × Int × Int × Bool) → Option ρ), (l_0 d k).bind q = l_0 d fun x => (k x).bind q) (hl_1 : ∀ {ρ σ : Type} (q : ρ → Option σ) (d : Int × Int × Int × Int × Int × Int × Int × Int × Int) (k : (Int × Int × Int × Int × Int × Int × Int × Int × Int × Int × Bool × Int × Bool ⊕
  Int × Int × Int × Int × Int × Int × Int × Int × Int × Int × Bool × Int × Int × Int × Int × Bool × Bool ⊕ Int × Int × Int × Int × Int × Int × Int × Int × Int × Bool × Int × Int × Int × Bool) → Option ρ), (l_1 d k).bind q = l_1 d fun x => (k x).bind q) (x0 : Int) (x1 : Int) (x2 : Int) (k : (Int × Int) → Option ρ) : (K_math_bits_Div64 g_math_bits_LeadingZeros64 (@l_0) (@l_1) x0 x1 x2 k).bind q = K_math_bits_Div64 g_math_bits_LeadingZeros64 (@l_0) (@l_1) x0 x1 x2 (fun d => (k d).bind q) := by
  simp only [K_math_bits_Div64, bnd_cond, bnd_bind, bnd_none, bnd_sum, hl_0, hl_1]
theorem qa_math_bits_Div64 : ∀ b, (QA_math_bits_Div64).em b = ([.r (.c (.f (.i .u64 b.1.1))), .r (.c (.f (.i .u64 b.1.2.1))), .r (.c (.f (.i .u64 b.1.2.2.1)))], []) := fun b => by kernel_rfl
theorem e_math_bits_Div64 {f : (Int) → (Int) → (Int) → Option (Int × Int)} {args : List AV} {h : List Blk} {r : Res} (hr : (F_math_bits_Div64 f args h).eval = some r) : ∃ x0 x1 x2, args = [.r (.c (.f (.i .u64 x0))), .r (.c (.f (.i .u64 x1))), .r (.c (.f (.i .u64 x2)))] ∧ h = [] ∧ (f x0 x1 x2).bind (fun (d : Int × Int) => some (Res.mk (AV.tup [RV.c (CV.f (FV.i IntKind.u64 d.fst)), RV.c (CV.f (FV.i IntKind.u64 d.snd))]) [] [])) = some r := by
  unfold F_math_bits_Div64 at hr
  split at hr
  · rename_i b hb
    have e := ((QA_math_bits_Div64).ok _ _ hb).trans (qa_math_bits_Div64 b)
    rw [opt_eval2] at hr
    exact ⟨b.1.1, b.1.2.1, b.1.2.2.1, (Prod.mk.inj e).1, (Prod.mk.inj e).2, hr⟩
  · cases hr
theorem n_math_bits_Div64 {σ : Type} (q : (Int × Int) → Option σ) (x0 : Int) (x1 : Int) (x2 : Int) : (f_math_bits_Div64 x0 x1 x2).bind q = K_math_bits_Div64 f_math_bits_LeadingZeros64 (@L_math_bits_Div64_0) (@L_math_bits_Div64_1) x0 x1 x2 q := by
  unfold f_math_bits_Div64
  exact m_math_bits_Div64 q f_math_bits_LeadingZeros64 (@L_math_bits_Div64_0) (@L_math_bits_Div64_1) (fun q d k => mL_math_bits_Div64_0 q d k) (fun q d k => mL_math_bits_Div64_1 q d k) x0 x1 x2 some
theorem s_math_bits_Div64 : Sound Try.prog 54 (F_math_bits_Div64 f_math_bits_Div64) :=
  (inl_sums (l := [(89, F_math_bits_LeadingZeros64 f_math_bits_LeadingZeros64)]) (.cons s_math_bits_LeadingZeros64 (.nil _)) mixed (hs := ⟨[⟨17, [0, 1, 3, 4, 5, 6, 7, 12, 17, 18, 19, 20, 21, 22, 23, 24, 25, 26, 27, 28, 29, 30, 31, 32, 33, 34, 35, 36, 37, 38, 39, 40, 41, 42, 43, 44, 45, 46, 47, 48, 49, 50, 51, 52, 53, 54, 55, 56, 57, 58, 59, 60, 61, 62, 63, 64, 65, 66, 67, 68, 69, 78, 79, 80, 81, 82, 83, 84, 85, 86, 87, 88, 89, 90, 91, 92, 93, 94, 95, 96, 97, 98, 99, 100, 101, 102, 103, 104, 113, 114, 115, 116, 117, 118, 119, 120, 121, 122, 123, 124, 125, 126, 127, 128, 129, 130, 131, 132, 133, 134, 70, 71, 72, 73, 74, 75, 76, 77], []⟩, ⟨24, [0, 1, 3, 4, 5, 6, 7, 11, 12, 13, 19, 20, 21, 22, 23, 24, 25, 26, 27, 28, 29, 30, 31, 32, 33, 34, 35, 36, 37, 38, 39, 40, 41, 42, 43, 44, 45, 46, 47, 48, 49, 50, 51, 52, 53, 54, 55, 56, 57, 58, 59, 60, 61, 62, 63, 64, 65, 66, 67, 68, 69, 70, 71, 72, 73, 74, 75, 76, 77, 78, 79, 80, 81, 82, 83, 84, 85, 86, 87, 88, 89, 90, 91, 92, 93, 94, 95, 96, 97, 98, 99, 100, 101, 102, 103, 104, 113, 114, 115, 116, 117, 118, 119, 120, 121, 122, 123, 124, 125, 126, 127, 128, 129, 130, 131, 132, 133, 134, 105, 106, 107, 108, 109, 110, 111, 112], []⟩], [⟨17, 0, @R_math_bits_Div64_0 (@L_math_bits_Div64_0)⟩, ⟨24, 0, @R_math_bits_Div64_1 (@L_math_bits_Div64_1)⟩], [], [], none⟩) (lf := 200) (Sums.by (l := [loopIn Try.prog 54 17, loopIn Try.prog 54 24]) (lj := []) (by kernel_rfl) ⟨so_math_bits_Div64_0, ⟨so_math_bits_Div64_1, trivial⟩⟩ (by kernel_rfl) trivial) (by kernel_rfl)).by (F := F_math_bits_Div64 f_math_bits_Div64) fun args b r hr => by
  obtain ⟨x0, x1, x2, rfl, rfl, hr1⟩ := e_math_bits_Div64 hr
  exact inl_eval ((d_math_bits_Div64 f_math_bits_LeadingZeros64 (@L_math_bits_Div64_0) (@L_math_bits_Div64_1) x0 x1 x2).trans ((n_math_bits_Div64 (fun (d : Int × Int) => some (Res.mk (AV.tup [RV.c (CV.f (FV.i IntKind.u64 d.fst)), RV.c (CV.f (FV.i IntKind.u64 d.snd))]) [] [])) x0 x1 x2).symm.trans hr1))

def K_wide_Div {ρ : Type} (g_wide_abs : Int → Int → Option (Int × Int × Bool)) (g_wide_abs64 : Int → Option Int) (g_math_bits_Div64 : Int → Int → Int → Option (Int × Int)) (g__wide_big__plus : Int → Int → Int → Int → Option (Int × Int)) (g_wide_signed64 : Int → Int → Bool → Option (Int × Bool))  (x0 : Int) (x1 : Int) (x2 : Int) (k : (Int × Bool) → Option ρ) : Option ρ :=
  bif x2 == 0 then k (0, false)
  else
    Option.bind (g_wide_abs x0 x1) fun (d : Int × Int × Bool) =>
      Option.bind (g_wide_abs64 x2) fun (d_1 : Int) =>
        bif !decide (d_1 = 0) then
          bif !decide (d_1 = 0) then
            Option.bind (g_math_bits_Div64 (Int.tmod d.fst d_1) d.snd.fst d_1) fun (d_2 : Int × Int) =>
              bif decide (d_2.snd ≥ IntKind.wrap IntKind.u64 (d_1 - d_2.snd)) then
                Option.bind (g__wide_big__plus (IntKind.wrap IntKind.u64 (Int.tdiv d.fst d_1)) d_2.fst 0 1) fun (d_3 : Int × Int) =>
                  Option.bind (g_wide_signed64 d_3.fst d_3.snd !d.snd.snd == decide (x2 < 0)) fun (d : Int × Bool) => k (d.fst, d.snd)
              else Option.bind (g_wide_signed64 (IntKind.wrap IntKind.u64 (Int.tdiv d.fst d_1)) d_2.fst !d.snd.snd == decide (x2 < 0)) fun (d : Int × Bool) => k (d.fst, d.snd)
          else none
        else none
def f_wide_Div (x0 : Int) (x1 : Int) (x2 : Int) : Option (Int × Bool) := K_wide_Div f_wide_abs f_wide_abs64 f_math_bits_Div64 f__wide_big__plus f_wide_signed64  x0 x1 x2 some
section
open Go.Ab.Rdr
def QA_wide_Div := ((pair (cons (ar (ra (cons (gc (cf (fi .i64 hole))) (cons (gc (cf (fi .u64 hole))) nil)))) (cons (ar (rc (cf (fi .i64 hole)))) nil)) nil) : Rdr (List AV × List Blk) _)
end
def F_wide_Div (f : (Int) → (Int) → (Int) → Option (Int × Bool)) : Sem1 := fun args h => match (QA_wide_Div).rd (args, h) with
  | some b => .opt (f b.1.1.1 b.1.1.2.1 b.1.2.1) fun (d : Int × Bool) => .leaf (Res.mk (AV.tup [RV.c (CV.f (FV.i IntKind.i64 d.fst)), RV.c (CV.f (FV.b d.snd))]) [] [])
  | none => .fail
theorem d_wide_Div (g_wide_abs : Int → Int → Option (Int × Int × Bool)) (g_wide_abs64 : Int → Option Int) (g_math_bits_Div64 : Int → Int → Int → Option (Int × Int)) (g__wide_big__plus : Int → Int → Int → Int → Option (Int × Int)) (g_wide_signed64 : Int → Int → Bool → Option (Int × Bool))  (x0 : Int) (x1 : Int) (x2 : Int) : den Try.prog (envOf [(52, F_wide_abs g_wide_abs), (53, F_wide_abs64 g_wide_abs64), (54, F_math_bits_Div64 g_math_bits_Div64), (47, F__wide_big__plus g__wide_big__plus), (51, F_wide_signed64 g_wide_signed64)]) ⟨[], [], [], [], none⟩ 200 18 [.r (.agg [.c (.f (.i .i64 x0)), .c (.f (.i .u64 x1))]), .r (.c (.f (.i .i64 x2)))] [] =
    K_wide_Div g_wide_abs g_wide_abs64 g_math_bits_Div64 g__wide_big__plus g_wide_signed64  x0 x1 x2 (fun (d : Int × Bool) => some (Res.mk (AV.tup [RV.c (CV.f (FV.i IntKind.i64 d.fst)), RV.c (CV.f (FV.b d.snd))]) [] [])) := by kernel_rfl
theorem m_wide_Div {ρ σ : Type} (q : ρ → Option σ) (g_wide_abs : Int → Int → Option (Int × Int × Bool)) (g_wide_abs64 : Int → Option Int) (g_math_bits_Div64 : Int → Int → Int → Option (Int × Int)) (g__wide_big__plus : Int → Int → Int → Int → Option (Int × Int)) (g_wide_signed64 : Int → Int → Bool → Option (Int × Bool))   (x0 : Int) (x1 : Int) (x2 : Int) (k : (Int × Bool) → Option ρ) : (K_wide_Div g_wide_abs g_wide_abs64 g_math_bits_Div64 g__wide_big__plus g_wide_signed64  x0 x1 x2 k).bind q = K_wide_Div g_wide_abs g_wide_abs64 g_math_bits_Div64 g__wide_big__plus g_wide_signed64  x0 x1 x2 (fun d => (k d).bind q) := by
  simp only [K_wide_Div, bnd_cond, bnd_bind, bnd_none, bnd_sum]
theorem qa_wide_Div : ∀ b, (QA_wide_Div).em b = ([.r (.agg [.c (.f (.i .i64 b.1.1.1)), .c (.f (.i .u64 b.1.1.2.1))]), .r (.c (.f (.i .i64 b.1.2.1)))], []) := fun b => by kernel_rfl
theorem e_wide_Div {f : (Int) → (Int) → (Int) → Option (Int × Bool)} {args : List AV} {h : List Blk} {r : Res} (hr : (F_wide_Div f args h).eval = some r) : ∃ x0 x1 x2, args = [.r (.agg [.c (.f (.i .i64 x0)), .c (.f (.i .u64 x1))]), .r (.c (.f (.i .i64 x2)))] ∧ h = [] ∧ (f x0 x1 x2).bind (fun (d : Int × Bool) => some (Res.mk (AV.tup [RV.c (CV.f (FV.i IntKind.i64 d.fst)), RV.c (CV.f (FV.b d.snd))]) [] [])) = some r := by
  unfold F_wide_Div at hr
  split at hr
  · rename_i b hb
    have e := ((QA_wide_Div).ok _ _ hb).trans (qa_wide_Div b)
    rw [opt_eval2] at hr
    exact ⟨b.1.1.1, b.1.1.2.1, b.1.2.1, (Prod.mk.inj e).1, (Prod.mk.inj e).2, hr⟩
  · cases hr
theorem n_wide_Div {σ : Type} (q : (Int × Bool) → Option σ) (x0 : Int) (x1 : Int) (x2 : Int) : (f_wide_Div x0 x1 x2).bind q = K_wide_Div f_wide_abs f_wide_abs64 f_math_bits_Div64 f__wide_big__plus f_wide_signed64  x0 x1 x2 q := by
  unfold f_wide_Div
  exact m_wide_Div q f_wide_abs f_wide_abs64 f_math_bits_Div64 f__wide_big__plus f_wide_signed64   x0 x1 x2 some
theorem s_wide_Div : Sound Try.prog 18 (F_wide_Div f_wide_Div) :=
  (inl_sound (l := [(52, F_wide_abs f_wide_abs), (53, F_wide_abs64 f_wide_abs64), (54, F_math_bits_Div64 f_math_bits_Div64), (47, F__wide_big__plus f__wide_big__plus), (51, F_wide_signed64 f_wide_signed64)]) (.cons s_wide_abs (.cons s_wide_abs64 (.cons s_math_bits_Div64 (.cons s__wide_big__plus (.cons s_wide_signed64 (.nil _)))))) mixed [] [] 200 (by kernel_rfl)).by (F := F_wide_Div f_wide_Div) fun args b r hr => by
  obtain ⟨x0, x1, x2, rfl, rfl, hr1⟩ := e_wide_Div hr
  exact inl_eval ((d_wide_Div f_wide_abs f_wide_abs64 f_math_bits_Div64 f__wide_big__plus f_wide_signed64  x0 x1 x2).trans ((n_wide_Div (fun (d : Int × Bool) => some (Res.mk (AV.tup [RV.c (CV.f (FV.i IntKind.i64 d.fst)), RV.c (CV.f (FV.b d.snd))]) [] [])) x0 x1 x2).symm.trans hr1))

end Go.Proofs.Ytcalippagaaikaa
