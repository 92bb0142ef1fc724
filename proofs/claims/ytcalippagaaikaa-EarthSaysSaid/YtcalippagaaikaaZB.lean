/-
  Contracts by plain functions: math/bits.Len64, math/bits.LeadingZeros64, math/bits.Div64, wide.Div Contracts by plain functions: fx.Abs, (*fx.Acc).by, (*fx.Acc).MulDiv, (*fx.Acc).Div, root.end, root.Sqrt, trig.Wrap, trig.m, trig.series, trig.Sin, trig.Cos, earth.Good, earth.New, (*earth.Frame).To
-/
import Derived.Test.YtcalippagaaikaaZA
set_option maxRecDepth 100000
set_option maxHeartbeats 4000000
set_option linter.unusedVariables false
namespace Go.Proofs.Ytcalippagaaikaa
open Go.Ab
abbrev u0C2 : List Nat := [1, 3, 4, 5, 6, 7, 8, 9, 10, 11, 12, 13, 14, 15, 16, 17, 18, 19, 20, 21, 22, 23, 24]
abbrev u1C2 : List Nat := [0, 1, 3, 4, 5, 6, 7, 8, 9, 10, 11, 12, 13, 14, 15, 16, 17, 18, 19, 20, 21, 22, 23, 24]
abbrev t2C2 := Int → Option Int
abbrev t3C2 := Int → Int → Option (Int × Int × Bool)
abbrev t4C2 := Int → Int → Int → Option (Int × Int)
abbrev t5C2 := Int → Int → Int → Int → Option (Int × Int)
abbrev t6C2 := Int → Int → Bool → Option (Int × Bool)
def S_O_2 {ρ : Type} (x0 : Int) (x1 : Int) (c : (Int × Int) → Option ρ) (x : (Int) → Option ρ) : Option ρ := bif inR (IntKind.wrap IntKind.u8 x0) 256 then x (IntKind.wrap IntKind.i64 (x1 + IntKind.wrap IntKind.i64 (byteAt (ByteArray.mk (List.toArray (List.append (List.append [0, 1, 2, 2, 3, 3, 3, 3,
 4, 4, 4, 4, 4, 4, 4, 4, 5, 5, 5, 5, 5, 5, 5, 5, 5, 5, 5, 5, 5, 5, 5, 5, 6, 6, 6, 6, 6, 6, 6, 6, 6, 6, 6, 6, 6, 6, 6, 6, 6, 6, 6, 6, 6, 6, 6, 6, 6, 6, 6, 6, 6, 6, 6, 6] [7, 7, 7, 7, 7, 7, 7, 7, 7, 7, 7, 7, 7, 7, 7, 7, 7, 7, 7, 7, 7, 7, 7, 7, 7, 7, 7, 7, 7, 7, 7, 7, 7, 7, 7, 7, 7, 7, 7, 7, 7, 7, 7, 7,
 7, 7, 7, 7, 7, 7, 7, 7, 7, 7, 7, 7, 7, 7, 7, 7, 7, 7, 7, 7]) (List.append [8, 8, 8, 8, 8, 8, 8, 8, 8, 8, 8, 8, 8, 8, 8, 8, 8, 8, 8, 8, 8, 8, 8, 8, 8, 8, 8, 8, 8, 8, 8, 8, 8, 8, 8, 8, 8, 8, 8, 8, 8, 8, 8, 8, 8, 8, 8, 8, 8, 8, 8, 8, 8, 8, 8, 8, 8, 8, 8, 8, 8, 8, 8, 8] [8, 8, 8, 8, 8, 8, 8, 8, 8, 8, 8,
 8, 8, 8, 8, 8, 8, 8, 8, 8, 8, 8, 8, 8, 8, 8, 8, 8, 8, 8, 8, 8, 8, 8, 8, 8, 8, 8, 8, 8, 8, 8, 8, 8, 8, 8, 8, 8, 8, 8, 8, 8, 8, 8, 8, 8, 8, 8, 8, 8, 8, 8, 8, 8])))) (Int.toNat (IntKind.wrap IntKind.u8 x0))))) else none
section
open Go.Ab.Rdr
def Q_O_2 := (st (cons (ar (rc (cf (fi .u64 hole)))) (cons aund (cons (ar (rc (cf (fi .i64 hole)))) (cons aund (cons aund (cons aund (cons aund (cons aund (cons aund (cons aund (cons aund (cons aund (cons aund (cons aund (cons aund (cons aund (cons aund (cons aund (cons aund (cons aund (cons aund (cons aund (cons aund (cons aund (cons aund nil))))))))))))))))))))))))) nil nil)
end
theorem q_O_2 : ∀ b, (Q_O_2).em b = St.mk [rU b.1.1, un, rI b.1.2.2.1, un, un, un, un, un, un, un, un, un, un, un, un, un, un, un, un, un, un, un, un,
 un, un] [] [] := fun b => by kernel_rfl
def R_O_2 (l : ∀ {ρ : Type}, (Int × Int) → ((Int) → Option ρ) → Option ρ) {ρ : Type} (s : St) (K : AX → St → Option ρ) : Option ρ := ((Q_O_2).rd s).bind fun b => l (b.1.1, b.1.2.2.1) (fun d => K (AX.ret) (St.mk [un, un, rI d, un, un, un, un,
 un, un, un, un, un, un, un, un, un, un, un, un, un, un, un, un, un, un] [] []))
theorem ms_O_2 {ρ σ : Type}    (q : ρ → Option σ) (x0 : Int) (x1 : Int) (c : (Int × Int) → Option ρ) (x : (Int) → Option ρ) : (S_O_2   x0 x1 c x).bind q = S_O_2   x0 x1 (fun d => (c d).bind q) (fun d => (x d).bind q) := by
  simp only [S_O_2, bnd_cond, bnd_bind, bnd_none, bnd_sum]
def L_O_2 {ρ : Type} (d : Int × Int) (k : (Int) → Option ρ) : Option ρ := S_O_2   d.1 d.2 (fun _ => none) k
theorem mL_O_2 {ρ σ : Type} (q : ρ → Option σ) (d : Int × Int) (k : (Int) → Option ρ) : (L_O_2 d k).bind q = L_O_2 d fun x => (k x).bind q := ms_O_2 q d.1 d.2 (fun _ => none) k
def S_O_1 {ρ : Type} (l_2 : ∀ {ρ : Type}, (Int × Int) → ((Int) → Option ρ) → Option ρ) (x0 : Int) (x1 : Int) (c : (Int × Int) → Option ρ) (x : (Int) → Option ρ) : Option ρ := bif decide (x0 ≥ 256) then l_2 (Int.fdiv x0 256, IntKind.wrap IntKind.i64 (x1 + 8)) fun (d : Int) => x d else l_2 (x0, x1) fun (d : Int) => x d
section
open Go.Ab.Rdr
def Q_O_1 := (st (cons (ar (rc (cf (fi .u64 hole)))) (cons aund (cons (ar (rc (cf (fi .i64 hole)))) (cons aund (cons aund (cons aund (cons aund (cons aund (cons aund (cons aund (cons aund (cons aund (cons aund (cons aund (cons aund (cons aund (cons aund (cons aund (cons aund (cons aund (cons aund (cons aund (cons aund (cons aund (cons aund nil))))))))))))))))))))))))) nil nil)
end
theorem q_O_1 : ∀ b, (Q_O_1).em b = St.mk [rU b.1.1, un, rI b.1.2.2.1, un, un, un, un, un, un, un, un, un, un, un, un, un, un, un, un, un, un, un, un,
 un, un] [] [] := fun b => by kernel_rfl
def R_O_1 (l : ∀ {ρ : Type}, (Int × Int) → ((Int) → Option ρ) → Option ρ) {ρ : Type} (s : St) (K : AX → St → Option ρ) : Option ρ := ((Q_O_1).rd s).bind fun b => l (b.1.1, b.1.2.2.1) (fun d => K (AX.ret) (St.mk [un, un, rI d, un, un, un, un,
 un, un, un, un, un, un, un, un, un, un, un, un, un, un, un, un, un, un] [] []))
theorem ms_O_1 {ρ σ : Type}  (l_2 : ∀ {ρ : Type}, (Int × Int) → ((Int) → Option ρ) → Option ρ) (hl_2 : ∀ {ρ σ : Type} (q : ρ → Option σ) (d : Int × Int) (k : (Int) → Option ρ), (l_2 d k).bind q = l_2 d fun x => (k x).bind q) (q : ρ → Option σ) (x0 : Int) (x1 : Int) (c : (Int × Int) → Option ρ) (x : (Int) → Option ρ) : (S_O_1  (@l_2) x0 x1 c x).bind q = S_O_1  (@l_2) x0 x1 (fun d => (c d).bind q) (fun d => (x d).bind q) := by
  simp only [S_O_1, bnd_cond, bnd_bind, bnd_none, bnd_sum, hl_2]
def L_O_1 {ρ : Type} (d : Int × Int) (k : (Int) → Option ρ) : Option ρ := S_O_1  (@L_O_2) d.1 d.2 (fun _ => none) k
theorem mL_O_1 {ρ σ : Type} (q : ρ → Option σ) (d : Int × Int) (k : (Int) → Option ρ) : (L_O_1 d k).bind q = L_O_1 d fun x => (k x).bind q := ms_O_1 (@L_O_2) (fun q d k => mL_O_2 q d k) q d.1 d.2 (fun _ => none) k
def S_O_0 {ρ : Type} (l_1 : ∀ {ρ : Type}, (Int × Int) → ((Int) → Option ρ) → Option ρ) (x0 : Int) (x1 : Int) (c : (Int × Int) → Option ρ) (x : (Int) → Option ρ) : Option ρ := bif decide (x0 ≥ 65536) then l_1 (Int.fdiv x0 65536, IntKind.wrap IntKind.i64 (x1 + 16)) fun (d : Int) => x d else l_1 (x0, x1) fun (d : Int) => x d
section
open Go.Ab.Rdr
def Q_O_0 := (st (cons (ar (rc (cf (fi .u64 hole)))) (cons aund (cons (ar (rc (cf (fi .i64 hole)))) (cons aund (cons aund (cons aund (cons aund (cons aund (cons aund (cons aund (cons aund (cons aund (cons aund (cons aund (cons aund (cons aund (cons aund (cons aund (cons aund (cons aund (cons aund (cons aund (cons aund (cons aund (cons aund nil))))))))))))))))))))))))) nil nil)
end
theorem q_O_0 : ∀ b, (Q_O_0).em b = St.mk [rU b.1.1, un, rI b.1.2.2.1, un, un, un, un, un, un, un, un, un, un, un, un, un, un, un, un, un, un, un, un,
 un, un] [] [] := fun b => by kernel_rfl
def R_O_0 (l : ∀ {ρ : Type}, (Int × Int) → ((Int) → Option ρ) → Option ρ) {ρ : Type} (s : St) (K : AX → St → Option ρ) : Option ρ := ((Q_O_0).rd s).bind fun b => l (b.1.1, b.1.2.2.1) (fun d => K (AX.ret) (St.mk [un, un, rI d, un, un, un, un,
 un, un, un, un, un, un, un, un, un, un, un, un, un, un, un, un, un, un] [] []))
theorem ms_O_0 {ρ σ : Type}  (l_1 : ∀ {ρ : Type}, (Int × Int) → ((Int) → Option ρ) → Option ρ) (hl_1 : ∀ {ρ σ : Type} (q : ρ → Option σ) (d : Int × Int) (k : (Int) → Option ρ), (l_1 d k).bind q = l_1 d fun x => (k x).bind q) (q : ρ → Option σ) (x0 : Int) (x1 : Int) (c : (Int × Int) → Option ρ) (x : (Int) → Option ρ) : (S_O_0  (@l_1) x0 x1 c x).bind q = S_O_0  (@l_1) x0 x1 (fun d => (c d).bind q) (fun d => (x d).bind q) := by
  simp only [S_O_0, bnd_cond, bnd_bind, bnd_none, bnd_sum, hl_1]
def L_O_0 {ρ : Type} (d : Int × Int) (k : (Int) → Option ρ) : Option ρ := S_O_0  (@L_O_1) d.1 d.2 (fun _ => none) k
theorem mL_O_0 {ρ σ : Type} (q : ρ → Option σ) (d : Int × Int) (k : (Int) → Option ρ) : (L_O_0 d k).bind q = L_O_0 d fun x => (k x).bind q := ms_O_0 (@L_O_1) (fun q d k => mL_O_1 q d k) q d.1 d.2 (fun _ => none) k
theorem ds_O_2 {ρ : Type} (l_2 : ∀ {ρ : Type}, (Int × Int) → ((Int) → Option ρ) → Option ρ) (l_1 : ∀ {ρ : Type}, (Int × Int) → ((Int) → Option ρ) → Option ρ) (l_0 : ∀ {ρ : Type}, (Int × Int) → ((Int) → Option ρ) → Option ρ) (x0 : Int) (x1 : Int) (K : AX → St → Option ρ) : runC Try.prog (envOf []) ⟨[],
 [], [], [⟨⟨4, u0C2, []⟩, ⟨4, 0, @R_O_0 (@l_0)⟩⟩, ⟨⟨7, u0C2, []⟩, ⟨7, 0, @R_O_1 (@l_1)⟩⟩, ⟨⟨10, u0C2, []⟩, ⟨10, 0, @R_O_2 (@l_2)⟩⟩], (some ⟨0, u1C2, []⟩)⟩ (tmpsOf Try.prog 110) 0 200 (joinIn Try.prog 110 10) (St.mk [rU x0, un, rI x1,
 un, un, un, un, un, un, un, un, un, un, un, un, un, un, un, un, un, un, un, un, un, un] [] []) K = S_O_2 x0 x1 (fun _ => none) (fun d => K (AX.ret) (St.mk [un, un, rI d,
 un, un, un, un, un, un, un, un, un, un, un, un, un, un, un, un, un, un, un, un, un, un] [] [])) := by kernel_rfl
theorem so_O_2 [Amb] : ∀ kk, JnOK Try.prog (envOf []) ⟨[], [], [], [⟨⟨4, u0C2, []⟩, ⟨4, 0, @R_O_0 (@L_O_0)⟩⟩, ⟨⟨7, u0C2, []⟩, ⟨7, 0, @R_O_1 (@L_O_1)⟩⟩,
 ⟨⟨10, u0C2, []⟩, ⟨10, 0, @R_O_2 (@L_O_2)⟩⟩], (some ⟨0, u1C2, []⟩)⟩ (tmpsOf Try.prog 110) kk 200 (joinIn Try.prog 110 10) := JnOK.of (id := 10) (k0 := 0) (hd := ⟨10,
 u0C2, []⟩) (run := @R_O_2 (@L_O_2)) (by kernel_rfl) fun s K r hr => by
    unfold R_O_2 at hr
    obtain ⟨b, hb, hr1⟩ := Option.bind_eq_some_iff.1 hr
    have e := ((Q_O_2).ok s b hb).trans (q_O_2 b)
    subst e
    exact (ds_O_2  (@L_O_2) (@L_O_1) (@L_O_0) b.1.1 b.1.2.2.1 K).trans hr1
theorem ds_O_1 {ρ : Type} (l_2 : ∀ {ρ : Type}, (Int × Int) → ((Int) → Option ρ) → Option ρ) (l_1 : ∀ {ρ : Type}, (Int × Int) → ((Int) → Option ρ) → Option ρ) (l_0 : ∀ {ρ : Type}, (Int × Int) → ((Int) → Option ρ) → Option ρ) (x0 : Int) (x1 : Int) (K : AX → St → Option ρ) : runC Try.prog (envOf []) ⟨[],
 [], [], [⟨⟨4, u0C2, []⟩, ⟨4, 0, @R_O_0 (@l_0)⟩⟩, ⟨⟨7, u0C2, []⟩, ⟨7, 0, @R_O_1 (@l_1)⟩⟩, ⟨⟨10, u0C2, []⟩, ⟨10, 0, @R_O_2 (@l_2)⟩⟩], (some ⟨0, u1C2, []⟩)⟩ (tmpsOf Try.prog 110) 0 200 (joinIn Try.prog 110 7) (St.mk [rU x0, un, rI x1,
 un, un, un, un, un, un, un, un, un, un, un, un, un, un, un, un, un, un, un, un, un, un] [] []) K = S_O_1 (@l_2) x0 x1 (fun _ => none) (fun d => K (AX.ret) (St.mk [un, un, rI d,
 un, un, un, un, un, un, un, un, un, un, un, un, un, un, un, un, un, un, un, un, un, un] [] [])) := by kernel_rfl
theorem so_O_1 [Amb] : ∀ kk, JnOK Try.prog (envOf []) ⟨[], [], [], [⟨⟨4, u0C2, []⟩, ⟨4, 0, @R_O_0 (@L_O_0)⟩⟩, ⟨⟨7, u0C2, []⟩, ⟨7, 0, @R_O_1 (@L_O_1)⟩⟩,
 ⟨⟨10, u0C2, []⟩, ⟨10, 0, @R_O_2 (@L_O_2)⟩⟩], (some ⟨0, u1C2, []⟩)⟩ (tmpsOf Try.prog 110) kk 200 (joinIn Try.prog 110 7) := JnOK.of (id := 7) (k0 := 0) (hd := ⟨7,
 u0C2, []⟩) (run := @R_O_1 (@L_O_1)) (by kernel_rfl) fun s K r hr => by
    unfold R_O_1 at hr
    obtain ⟨b, hb, hr1⟩ := Option.bind_eq_some_iff.1 hr
    have e := ((Q_O_1).ok s b hb).trans (q_O_1 b)
    subst e
    exact (ds_O_1  (@L_O_2) (@L_O_1) (@L_O_0) b.1.1 b.1.2.2.1 K).trans hr1
theorem ds_O_0 {ρ : Type} (l_2 : ∀ {ρ : Type}, (Int × Int) → ((Int) → Option ρ) → Option ρ) (l_1 : ∀ {ρ : Type}, (Int × Int) → ((Int) → Option ρ) → Option ρ) (l_0 : ∀ {ρ : Type}, (Int × Int) → ((Int) → Option ρ) → Option ρ) (x0 : Int) (x1 : Int) (K : AX → St → Option ρ) : runC Try.prog (envOf []) ⟨[],
 [], [], [⟨⟨4, u0C2, []⟩, ⟨4, 0, @R_O_0 (@l_0)⟩⟩, ⟨⟨7, u0C2, []⟩, ⟨7, 0, @R_O_1 (@l_1)⟩⟩, ⟨⟨10, u0C2, []⟩, ⟨10, 0, @R_O_2 (@l_2)⟩⟩], (some ⟨0, u1C2, []⟩)⟩ (tmpsOf Try.prog 110) 0 200 (joinIn Try.prog 110 4) (St.mk [rU x0, un, rI x1,
 un, un, un, un, un, un, un, un, un, un, un, un, un, un, un, un, un, un, un, un, un, un] [] []) K = S_O_0 (@l_1) x0 x1 (fun _ => none) (fun d => K (AX.ret) (St.mk [un, un, rI d,
 un, un, un, un, un, un, un, un, un, un, un, un, un, un, un, un, un, un, un, un, un, un] [] [])) := by kernel_rfl
theorem so_O_0 [Amb] : ∀ kk, JnOK Try.prog (envOf []) ⟨[], [], [], [⟨⟨4, u0C2, []⟩, ⟨4, 0, @R_O_0 (@L_O_0)⟩⟩, ⟨⟨7, u0C2, []⟩, ⟨7, 0, @R_O_1 (@L_O_1)⟩⟩,
 ⟨⟨10, u0C2, []⟩, ⟨10, 0, @R_O_2 (@L_O_2)⟩⟩], (some ⟨0, u1C2, []⟩)⟩ (tmpsOf Try.prog 110) kk 200 (joinIn Try.prog 110 4) := JnOK.of (id := 4) (k0 := 0) (hd := ⟨4,
 u0C2, []⟩) (run := @R_O_0 (@L_O_0)) (by kernel_rfl) fun s K r hr => by
    unfold R_O_0 at hr
    obtain ⟨b, hb, hr1⟩ := Option.bind_eq_some_iff.1 hr
    have e := ((Q_O_0).ok s b hb).trans (q_O_0 b)
    subst e
    exact (ds_O_0  (@L_O_2) (@L_O_1) (@L_O_0) b.1.1 b.1.2.2.1 K).trans hr1
def K_O {ρ : Type} (l_2 : ∀ {ρ : Type}, (Int × Int) → ((Int) → Option ρ) → Option ρ) (l_1 : ∀ {ρ : Type}, (Int × Int) → ((Int) → Option ρ) → Option ρ) (l_0 : ∀ {ρ : Type}, (Int × Int) → ((Int) → Option ρ) → Option ρ) (x0 : Int) (k : (Int) → Option ρ) : Option ρ := bif decide (x0 ≥ 4294967296) then l_0 (Int.fdiv x0 4294967296,
 32) fun (d : Int) => k d else l_0 (x0, 0) fun (d : Int) => k d
def f_O (x0 : Int) : Option (Int) := K_O  (@L_O_2) (@L_O_1) (@L_O_0) x0 some
section
open Go.Ab.Rdr
def QA_O := ((pair (cons (ar (rc (cf (fi .u64 hole)))) nil) nil) : Rdr (List AV × List Blk) _)
end
def F_O (f : (Int) → Option (Int)) : Sem1 := fun args h => match (QA_O).rd (args, h) with
  | some b => .opt (f b.1.1) fun (d : Int) => .leaf (Res.mk (rI d) [] [])
  | none => .fail
theorem d_O (l_2 : ∀ {ρ : Type}, (Int × Int) → ((Int) → Option ρ) → Option ρ) (l_1 : ∀ {ρ : Type}, (Int × Int) → ((Int) → Option ρ) → Option ρ) (l_0 : ∀ {ρ : Type}, (Int × Int) → ((Int) → Option ρ) → Option ρ) (x0 : Int) : den Try.prog (envOf []) ⟨[], [], [], [⟨⟨4, u0C2, []⟩, ⟨4, 0, @R_O_0 (@l_0)⟩⟩, ⟨⟨7, u0C2, []⟩, ⟨7, 0, @R_O_1 (@l_1)⟩⟩, ⟨⟨10, u0C2, []⟩, ⟨10, 0,
 @R_O_2 (@l_2)⟩⟩], (some ⟨0, u1C2, []⟩)⟩ 200 110 [rU x0] [] = K_O (@l_2) (@l_1) (@l_0) x0 (fun (d : Int) => some (Res.mk (rI d) [] [])) := by kernel_rfl
theorem m_O {ρ σ : Type} (q : ρ → Option σ)  (l_2 : ∀ {ρ : Type}, (Int × Int) → ((Int) → Option ρ) → Option ρ) (l_1 : ∀ {ρ : Type}, (Int × Int) → ((Int) → Option ρ) → Option ρ) (l_0 : ∀ {ρ : Type}, (Int × Int) → ((Int) → Option ρ) → Option ρ) (hl_2 : ∀ {ρ σ : Type} (q : ρ → Option σ) (d : Int × Int) (k : (Int) → Option ρ), (l_2 d k).bind q = l_2 d fun x => (k x).bind q) (hl_1 : ∀ {ρ σ : Type} (q : ρ → Option σ) (d : Int × Int) (k : (Int) → Option ρ), (l_1 d k).bind q = l_1 d fun x => (k x).bind q) (hl_0 : ∀ {ρ σ : Type} (q : ρ → Option σ) (d : Int × Int) (k : (Int) → Option ρ), (l_0 d k).bind q = l_0 d fun x => (k x).bind q) (x0 : Int) (k : (Int) → Option ρ) : (K_O  (@l_2) (@l_1) (@l_0) x0 k).bind q = K_O  (@l_2) (@l_1) (@l_0) x0 (fun d => (k d).bind q) := by
  simp only [K_O, bnd_cond, bnd_bind, bnd_none, bnd_sum, hl_2, hl_1, hl_0]
theorem qa_O : ∀ b, (QA_O).em b = ([rU b.1.1], []) := fun b => by kernel_rfl
theorem e_O {f : (Int) → Option (Int)} {args : List AV} {h : List Blk} {r : Res} (hr : (F_O f args h).eval = some r) : ∃ x0, args = [rU x0] ∧ h = [] ∧ (f x0).bind (fun (d : Int) => some (Res.mk (rI d) [] [])) = some r := by
  unfold F_O at hr
  split at hr
  · rename_i b hb
    have e := ((QA_O).ok _ _ hb).trans (qa_O b)
    rw [opt_eval2] at hr
    exact ⟨b.1.1, (Prod.mk.inj e).1, (Prod.mk.inj e).2, hr⟩
  · cases hr
theorem n_O {σ : Type} (q : (Int) → Option σ) (x0 : Int) : (f_O x0).bind q = K_O  (@L_O_2) (@L_O_1) (@L_O_0) x0 q := by
  unfold f_O
  exact m_O q  (@L_O_2) (@L_O_1) (@L_O_0) (fun q d k => mL_O_2 q d k) (fun q d k => mL_O_1 q d k) (fun q d k => mL_O_0 q d k) x0 some
theorem s_O [Amb] : Sound Try.prog 110 (F_O f_O) := (inl_sums (l := []) (.nil _) mixed (hs := ⟨[], [], [], [⟨⟨4, u0C2, []⟩, ⟨4, 0, @R_O_0 (@L_O_0)⟩⟩, ⟨⟨7, u0C2, []⟩, ⟨7, 0, @R_O_1 (@L_O_1)⟩⟩, ⟨⟨10, u0C2, []⟩, ⟨10, 0, @R_O_2 (@L_O_2)⟩⟩], (some ⟨0, u1C2, []⟩)⟩) (lf := 200) (Sums.by (l := []) (lj := [joinIn Try.prog 110 4,
 joinIn Try.prog 110 7, joinIn Try.prog 110 10]) (by kernel_rfl) trivial (by kernel_rfl) ⟨so_O_0, ⟨so_O_1, ⟨so_O_2, trivial⟩⟩⟩) (by kernel_rfl)).by (F := F_O f_O) fun args b r hr => by
  obtain ⟨x0, rfl, rfl, hr1⟩ := e_O hr
  exact inl_eval ((d_O  (@L_O_2) (@L_O_1) (@L_O_0) x0).trans ((n_O (fun (d : Int) => some (Res.mk (rI d) [] [])) x0).symm.trans hr1))

def K_Al {ρ : Type} (g_O : t2C2) (x0 : Int) (k : (Int) → Option ρ) : Option ρ := Option.bind (g_O x0) fun (d : Int) => k (IntKind.wrap IntKind.i64 (64 - d))
def f_Al (x0 : Int) : Option (Int) := K_Al f_O  x0 some
section
open Go.Ab.Rdr
def QA_Al := ((pair (cons (ar (rc (cf (fi .u64 hole)))) nil) nil) : Rdr (List AV × List Blk) _)
end
def F_Al (f : (Int) → Option (Int)) : Sem1 := fun args h => match (QA_Al).rd (args, h) with
  | some b => .opt (f b.1.1) fun (d : Int) => .leaf (Res.mk (rI d) [] [])
  | none => .fail
theorem d_Al (g_O : t2C2) (x0 : Int) : den Try.prog (envOf [(110, F_O g_O)]) ⟨[], [], [], [], none⟩ 200 89 [rU x0] [] = K_Al g_O x0 (fun (d : Int) => some (Res.mk (rI d) [] [])) := by kernel_rfl
theorem m_Al {ρ σ : Type} (q : ρ → Option σ) (g_O : t2C2)   (x0 : Int) (k : (Int) → Option ρ) : (K_Al g_O  x0 k).bind q = K_Al g_O  x0 (fun d => (k d).bind q) := by
  simp only [K_Al, bnd_cond, bnd_bind, bnd_none, bnd_sum]
theorem qa_Al : ∀ b, (QA_Al).em b = ([rU b.1.1], []) := fun b => by kernel_rfl
theorem e_Al {f : (Int) → Option (Int)} {args : List AV} {h : List Blk} {r : Res} (hr : (F_Al f args h).eval = some r) : ∃ x0, args = [rU x0] ∧ h = [] ∧ (f x0).bind (fun (d : Int) => some (Res.mk (rI d) [] [])) = some r := by
  unfold F_Al at hr
  split at hr
  · rename_i b hb
    have e := ((QA_Al).ok _ _ hb).trans (qa_Al b)
    rw [opt_eval2] at hr
    exact ⟨b.1.1, (Prod.mk.inj e).1, (Prod.mk.inj e).2, hr⟩
  · cases hr
theorem n_Al {σ : Type} (q : (Int) → Option σ) (x0 : Int) : (f_Al x0).bind q = K_Al f_O  x0 q := by
  unfold f_Al
  exact m_Al q f_O   x0 some
theorem s_Al [Amb] : Sound Try.prog 89 (F_Al f_Al) := (inl_sound (l := [(110, F_O f_O)]) (.cons s_O (.nil _)) mixed [] [] 200 (by kernel_rfl)).by (F := F_Al f_Al) fun args b r hr => by
  obtain ⟨x0, rfl, rfl, hr1⟩ := e_Al hr
  exact inl_eval ((d_Al f_O  x0).trans ((n_Al (fun (d : Int) => some (Res.mk (rI d) [] [])) x0).symm.trans hr1))

def S_AC_0 {ρ : Type} (g_Al : t2C2) (x0 : Int) (x1 : Int) (x2 : Int) (x3 : Int) (x4 : Int) (x5 : Int) (x6 : Int) (x7 : Int) (x8 : Int) (c : (Int × Int × Int × Int × Int × Int × Int × Int × Int) → Option ρ) (x : (Int × Int × Int × Int × Int × Int × Int × Int × Int × Int × Bool × Int × Bool ⊕ Int ×
 Int × Int × Int × Int × Int × Int × Int × Int × Int × Bool × Int × Int × Int × Int × Bool × Bool ⊕ Int × Int × Int × Int × Int × Int × Int × Int × Int × Bool × Int × Int × Int × Bool) → Option ρ) : Option ρ := bif decide (x7 ≥ 4294967296) then bif decide (IntKind.wrap IntKind.u64 (x8 + x2) ≥ 4294967296) then
 x (Sum.inl (x0, x1, x2, x3, x4, x5, x6, IntKind.wrap IntKind.u64 (x7 - 1), IntKind.wrap IntKind.u64 (x8 + x2), x7, decide (x7 ≥ 4294967296), x8, decide (IntKind.wrap IntKind.u64 (x8 + x2) ≥ 4294967296))) else c (x0, x1, x2, x3, x4, x5, x6, IntKind.wrap IntKind.u64 (x7 - 1), IntKind.wrap IntKind.u64 (x8 + x2)) else
 bif decide (IntKind.wrap IntKind.u64 (x7 * x3) > IntKind.wrap IntKind.u64 (IntKind.wrap IntKind.u64 (4294967296 * x8) + x5)) then bif decide (IntKind.wrap IntKind.u64 (x8 + x2) ≥ 4294967296) then x (Sum.inr (Sum.inl (x0, x1, x2, x3, x4, x5, x6, IntKind.wrap IntKind.u64 (x7 - 1), IntKind.wrap IntKind.u64 (x8 + x2),
 x7, decide (x7 ≥ 4294967296), IntKind.wrap IntKind.u64 (x7 * x3), x8, IntKind.wrap IntKind.u64 (4294967296 * x8), IntKind.wrap IntKind.u64 (IntKind.wrap IntKind.u64 (4294967296 * x8) + x5), decide (IntKind.wrap IntKind.u64 (x7 * x3) > IntKind.wrap IntKind.u64 (IntKind.wrap IntKind.u64 (4294967296 * x8) + x5)),
 decide (IntKind.wrap IntKind.u64 (x8 + x2) ≥ 4294967296)))) else c (x0, x1, x2, x3, x4, x5, x6, IntKind.wrap IntKind.u64 (x7 - 1), IntKind.wrap IntKind.u64 (x8 + x2)) else x (Sum.inr (Sum.inr (x0, x1, x2, x3, x4, x5, x6, x7, x8, decide (x7 ≥ 4294967296), IntKind.wrap IntKind.u64 (x7 * x3), IntKind.wrap IntKind.u64 (4294967296 * x8),
 IntKind.wrap IntKind.u64 (IntKind.wrap IntKind.u64 (4294967296 * x8) + x5), decide (IntKind.wrap IntKind.u64 (x7 * x3) > IntKind.wrap IntKind.u64 (IntKind.wrap IntKind.u64 (4294967296 * x8) + x5)))))
section
open Go.Ab.Rdr
def Q_AC_0 := (st (cons aund (cons aund (cons (ar (rc (cf (fi .u64 hole)))) (cons aund (cons aund (cons aund (cons aund (cons aund (cons (ar (rc (cf (fi .u64 hole)))) (cons (ar (rc (cf (fi .u64 hole)))) (cons (ar (rc (cf (fi .u64 hole)))) (cons (ar (rc (cf (fi .u64 hole)))) (cons aund (cons (ar (rc (cf (fi .u64 hole)))) (cons (ar (rc (cf (fi .u64 hole)))) (cons (ar (rc (cf (fi .u64 hole)))) (cons (ar (rc (cf (fi .u64 hole)))) (cons aund (cons aund (cons aund (cons aund (cons aund (cons aund (cons aund (cons aund (cons aund (cons aund (cons aund (cons aund (cons aund (cons aund (cons aund (cons aund (cons aund (cons aund (cons aund (cons aund (cons aund (cons aund (cons aund (cons aund (cons aund (cons aund (cons aund (cons aund (cons aund (cons aund (cons aund (cons aund (cons aund (cons aund (cons aund (cons aund (cons aund (cons aund (cons aund (cons aund (cons aund (cons aund (cons aund (cons aund (cons aund (cons aund (cons aund (cons aund (cons aund (cons aund (cons aund (cons aund (cons aund (cons aund (cons aund (cons aund (cons aund (cons aund (cons aund (cons aund (cons aund (cons aund (cons aund (cons aund (cons aund (cons aund (cons aund (cons aund (cons aund (cons aund (cons aund (cons aund (cons aund (cons aund (cons aund (cons aund (cons aund (cons aund (cons aund (cons aund (cons aund (cons aund (cons aund (cons aund (cons aund (cons aund (cons aund (cons aund (cons (atup nil) (cons (atup nil) (cons (atup nil) (cons (atup nil) (cons (atup nil) (cons (atup nil) (cons (atup nil) (cons (atup nil) (cons aund (cons aund (cons aund (cons aund (cons aund (cons aund (cons aund (cons aund (cons aund (cons aund (cons aund (cons aund (cons aund (cons aund (cons aund (cons aund (cons aund (cons aund (cons aund (cons aund (cons aund (cons aund nil))))))))))))))))))))))))))))))))))))))))))))))))))))))))))))))))))))))))))))))))))))))))))))))))))))))))))))))))))))))))))))))))))))))) nil nil)
end
theorem q_AC_0 : ∀ b, (Q_AC_0).em b = St.mk [un, un, rU b.1.2.2.1, un, un, un, un, un, rU b.1.c8.1, rU b.1.c8.2.1, rU b.1.c8.2.2.1,
 rU b.1.c8.2.2.2.1, un, rU b.1.c8.c4.2.1, rU b.1.c8.c4.2.2.1, rU b.1.c8.c4.2.2.2.1, rU b.1.c16.1,
 un, un, un, un, un, un, un, un, un, un, un, un, un, un, un, un, un, un, un, un, un, un, un, un, un, un, un, un, un, un, un, un, un, un, un, un, un, un,
 un, un, un, un, un, un, un, un, un, un, un, un, un, un, un, un, un, un, un, un, un, un, un, un, un, un, un, un, un, un, un, un, un, un, un, un, un, un,
 un, un, un, un, un, un, un, un, un, un, un, un, AV.tup [], AV.tup [], AV.tup [], AV.tup [], AV.tup [], AV.tup [], AV.tup [], AV.tup [], un, un, un, un, un, un, un, un, un, un, un, un, un, un, un,
 un, un, un, un, un, un, un] [] [] := fun b => by kernel_rfl
def R_AC_0 (l : ∀ {ρ : Type}, (Int × Int × Int × Int × Int × Int × Int × Int × Int) → ((Int × Int × Int × Int × Int × Int × Int × Int × Int × Int × Bool × Int × Bool ⊕ Int × Int × Int × Int × Int × Int × Int × Int × Int × Int × Bool × Int × Int × Int × Int × Bool × Bool ⊕ Int × Int × Int × Int × Int ×
 Int × Int × Int × Int × Bool × Int × Int × Int × Bool) → Option ρ) → Option ρ) {ρ : Type} (s : St) (K : AX → St → Option ρ) : Option ρ := ((Q_AC_0).rd s).bind fun b => l (b.1.2.2.1, b.1.c8.1, b.1.c8.2.1, b.1.c8.2.2.1, b.1.c8.2.2.2.1, b.1.c8.c4.2.1,
 b.1.c8.c4.2.2.1, b.1.c8.c4.2.2.2.1, b.1.c16.1) (Sum.elim (fun d => K (AX.ex 0) (St.mk [un, un, rU d.1, un, un, un, un, un, rU d.2.1, rU d.2.2.1,
 rU d.2.2.2.1, rU d.c4.1, un, rU d.c4.2.1, rU d.c4.2.2.1, rU d.c4.2.2.2.1, rU d.c8.1,
 un, un, un, un, un, un, un, un, un, un, un, un, un, un, un, un, un, un, un, un, un, un, un, un, un, un, un, un, un, un, un, un, un, un, un, un, un, un,
 un, un, un, un, un, un, un, un, un, un, un, un, rU d.c8.2.1, rB d.c8.2.2.1, rB true, AV.tup [], AV.tup [], AV.tup [], AV.tup [], AV.tup [], AV.tup [],
 AV.tup [], AV.tup [], rB true, rU d.c8.2.1, rU d.c4.2.2.2.1, rU d.c8.2.2.2.1, rU d.2.2.1, rU d.c8.1,
 rU d.c8.1, rB d.c8.c4, un, un, un, un, un, un, un, un, un, un, un, un, un, un, un, un, un, un, un, AV.tup [], AV.tup [], AV.tup [], AV.tup [],
 AV.tup [], AV.tup [], AV.tup [], AV.tup [], un, un, un, un, un, un, un, un, un, un, un, un, un, un, un, un, un, un, un, un, un, un] [] [])) (Sum.elim (fun d => K (AX.ex 0) (St.mk [un, un, rU d.1,
 un, un, un, un, un, rU d.2.1, rU d.2.2.1, rU d.2.2.2.1, rU d.c4.1, un, rU d.c4.2.1, rU d.c4.2.2.1,
 rU d.c4.2.2.2.1, rU d.c8.1, un, un, un, un, un, un, un, un, un, un, un, un, un, un, un, un, un, un, un, un, un, un, un, un,
 un, un, un, un, un, un, un, un, un, un, un, un, un, un, un, un, un, un, un, un, un, un, un, un, un, un, rU d.c8.2.1, rB d.c8.2.2.1,
 rB false, rU d.c8.2.1, rU d.2.2.2.1, rU d.c8.2.2.2.1, rU d.c8.c4.1, rU d.c8.c4.2.1,
 rU d.c4.2.1, rU d.c8.c4.2.2.1, rB d.c8.c4.2.2.2.1, rB d.c8.c4.2.2.2.1, rU d.c8.2.1,
 rU d.c4.2.2.2.1, rU d.c8.c4.1, rU d.2.2.1, rU d.c8.1, rU d.c8.1, rB d.c16,
 un, un, un, un, un, un, un, un, un, un, un, un, un, un, un, un, un, un, un, AV.tup [], AV.tup [], AV.tup [], AV.tup [], AV.tup [], AV.tup [], AV.tup [], AV.tup [], un, un, un, un, un, un, un, un,
 un, un, un, un, un, un, un, un, un, un, un, un, un, un] [] [])) (fun d => K (AX.ex 0) (St.mk [un, un, rU d.1, un, un, un, un, un, rU d.2.1, rU d.2.2.1,
 rU d.2.2.2.1, rU d.c4.1, un, rU d.c4.2.1, rU d.c4.2.2.1, rU d.c4.2.2.2.1, rU d.c8.1,
 un, un, un, un, un, un, un, un, un, un, un, un, un, un, un, un, un, un, un, un, un, un, un, un, un, un, un, un, un, un, un, un, un, un, un, un, un, un,
 un, un, un, un, un, un, un, un, un, un, un, un, rU d.c4.2.2.2.1, rB d.c8.2.1, rB false, rU d.c4.2.2.2.1, rU d.2.2.2.1,
 rU d.c8.2.2.1, rU d.c8.1, rU d.c8.2.2.2.1, rU d.c4.2.1, rU d.c8.c4.1,
 rB d.c8.c4.2, rB d.c8.c4.2, un, un, un, un, un, un, un, un, un, un, un, un, un, un, un, un, un, un, un, un, un, un, un, un,
 un, un, AV.tup [], AV.tup [], AV.tup [], AV.tup [], AV.tup [], AV.tup [], AV.tup [], AV.tup [], un, un, un, un, un, un, un, un, un, un, un, un, un, un, un, un, un, un, un, un, un, un] [] []))))
theorem ms_AC_0 {ρ σ : Type} (g_Al : t2C2) (q : ρ → Option σ) (x0 : Int) (x1 : Int) (x2 : Int) (x3 : Int) (x4 : Int) (x5 : Int) (x6 : Int) (x7 : Int) (x8 : Int) (c : (Int × Int × Int × Int × Int × Int × Int × Int × Int) → Option ρ) (x : (Int × Int × Int × Int × Int × Int × Int × Int × Int ×
 Int × Bool × Int × Bool ⊕ Int × Int × Int × Int × Int × Int × Int × Int × Int × Int × Bool × Int × Int × Int × Int × Bool × Bool ⊕ Int × Int × Int × Int × Int × Int × Int × Int × Int × Bool × Int × Int × Int × Bool) → Option ρ) : (S_AC_0 g_Al x0 x1 x2 x3 x4 x5 x6 x7 x8 c x).bind q = S_AC_0 g_Al x0 x1 x2 x3 x4 x5 x6 x7 x8 (fun d => (c d).bind q) (fun d => (x d).bind q) := by
  simp only [S_AC_0, bnd_cond, bnd_bind, bnd_none, bnd_sum]
def L_AC_0 {ρ : Type} (d : Int × Int × Int × Int × Int × Int × Int × Int × Int) (k : (Int × Int × Int × Int × Int × Int × Int × Int × Int × Int × Bool × Int × Bool ⊕ Int × Int × Int × Int × Int × Int × Int × Int × Int × Int × Bool × Int × Int × Int × Int × Bool × Bool ⊕ Int × Int × Int × Int × Int ×
 Int × Int × Int × Int × Bool × Int × Int × Int × Bool) → Option ρ) : Option ρ := loopK (fun d c x => S_AC_0 f_Al d.1 d.2.1 d.2.2.1 d.2.2.2.1 d.c4.1 d.c4.2.1 d.c4.2.2.1 d.c4.2.2.2.1 d.c8 c x) 200 d k
theorem mL_AC_0 {ρ σ : Type} (q : ρ → Option σ) (d : Int × Int × Int × Int × Int × Int × Int × Int × Int) (k : (Int × Int × Int × Int × Int × Int × Int × Int × Int × Int × Bool × Int × Bool ⊕ Int × Int × Int × Int × Int × Int × Int × Int × Int × Int × Bool × Int × Int × Int × Int × Bool × Bool ⊕ Int ×
 Int × Int × Int × Int × Int × Int × Int × Int × Bool × Int × Int × Int × Bool) → Option ρ) : (L_AC_0 d k).bind q = L_AC_0 d fun x => (k x).bind q := loopK_bind q (fun d c x => ms_AC_0 f_Al q d.1 d.2.1 d.2.2.1 d.2.2.2.1 d.c4.1 d.c4.2.1 d.c4.2.2.1 d.c4.2.2.2.1 d.c8 c x) k _ d
def S_AC_1 {ρ : Type} (g_Al : t2C2) (x0 : Int) (x1 : Int) (x2 : Int) (x3 : Int) (x4 : Int) (x5 : Int) (x6 : Int) (x7 : Int) (x8 : Int) (c : (Int × Int × Int × Int × Int × Int × Int × Int × Int) → Option ρ) (x : (Int × Int × Int × Int × Int × Int × Int × Int × Int × Int × Bool × Int × Bool ⊕ Int ×
 Int × Int × Int × Int × Int × Int × Int × Int × Int × Bool × Int × Int × Int × Int × Bool × Bool ⊕ Int × Int × Int × Int × Int × Int × Int × Int × Int × Bool × Int × Int × Int × Bool) → Option ρ) : Option ρ := bif decide (x8 ≥ 4294967296) then bif decide (IntKind.wrap IntKind.u64 (x6 + x2) ≥ 4294967296) then
 x (Sum.inl (x0, x1, x2, x3, x4, x5, IntKind.wrap IntKind.u64 (x6 + x2), x7, IntKind.wrap IntKind.u64 (x8 - 1), x8, decide (x8 ≥ 4294967296), x6, decide (IntKind.wrap IntKind.u64 (x6 + x2) ≥ 4294967296))) else c (x0, x1, x2, x3, x4, x5, IntKind.wrap IntKind.u64 (x6 + x2), x7, IntKind.wrap IntKind.u64 (x8 - 1)) else
 bif decide (IntKind.wrap IntKind.u64 (x8 * x3) > IntKind.wrap IntKind.u64 (IntKind.wrap IntKind.u64 (4294967296 * x6) + x4)) then bif decide (IntKind.wrap IntKind.u64 (x6 + x2) ≥ 4294967296) then x (Sum.inr (Sum.inl (x0, x1, x2, x3, x4, x5, IntKind.wrap IntKind.u64 (x6 + x2), x7, IntKind.wrap IntKind.u64 (x8 - 1),
 x8, decide (x8 ≥ 4294967296), IntKind.wrap IntKind.u64 (x8 * x3), x6, IntKind.wrap IntKind.u64 (4294967296 * x6), IntKind.wrap IntKind.u64 (IntKind.wrap IntKind.u64 (4294967296 * x6) + x4), decide (IntKind.wrap IntKind.u64 (x8 * x3) > IntKind.wrap IntKind.u64 (IntKind.wrap IntKind.u64 (4294967296 * x6) + x4)),
 decide (IntKind.wrap IntKind.u64 (x6 + x2) ≥ 4294967296)))) else c (x0, x1, x2, x3, x4, x5, IntKind.wrap IntKind.u64 (x6 + x2), x7, IntKind.wrap IntKind.u64 (x8 - 1)) else x (Sum.inr (Sum.inr (x0, x1, x2, x3, x4, x5, x6, x7, x8, decide (x8 ≥ 4294967296), IntKind.wrap IntKind.u64 (x8 * x3), IntKind.wrap IntKind.u64 (4294967296 * x6),
 IntKind.wrap IntKind.u64 (IntKind.wrap IntKind.u64 (4294967296 * x6) + x4), decide (IntKind.wrap IntKind.u64 (x8 * x3) > IntKind.wrap IntKind.u64 (IntKind.wrap IntKind.u64 (4294967296 * x6) + x4)))))
section
open Go.Ab.Rdr
def Q_AC_1 := (st (cons aund (cons aund (cons (ar (rc (cf (fi .u64 hole)))) (cons aund (cons aund (cons aund (cons aund (cons aund (cons (ar (rc (cf (fi .u64 hole)))) (cons (ar (rc (cf (fi .u64 hole)))) (cons (ar (rc (cf (fi .u64 hole)))) (cons aund (cons aund (cons aund (cons (ar (rc (cf (fi .u64 hole)))) (cons (ar (rc (cf (fi .u64 hole)))) (cons (ar (rc (cf (fi .u64 hole)))) (cons (ar (rc (cf (fi .u64 hole)))) (cons (ar (rc (cf (fi .u64 hole)))) (cons aund (cons aund (cons aund (cons aund (cons aund (cons aund (cons aund (cons aund (cons aund (cons aund (cons aund (cons aund (cons aund (cons aund (cons aund (cons aund (cons aund (cons aund (cons aund (cons aund (cons aund (cons aund (cons aund (cons aund (cons aund (cons aund (cons aund (cons aund (cons aund (cons aund (cons aund (cons aund (cons aund (cons aund (cons aund (cons aund (cons aund (cons aund (cons aund (cons aund (cons aund (cons aund (cons aund (cons aund (cons aund (cons aund (cons aund (cons aund (cons aund (cons aund (cons aund (cons aund (cons aund (cons aund (cons aund (cons aund (cons aund (cons aund (cons aund (cons aund (cons aund (cons aund (cons aund (cons aund (cons aund (cons aund (cons aund (cons aund (cons aund (cons aund (cons aund (cons aund (cons aund (cons aund (cons aund (cons aund (cons aund (cons aund (cons aund (cons aund (cons aund (cons aund (cons aund (cons aund (cons aund (cons aund (cons aund (cons aund (cons aund (cons aund (cons aund (cons aund (cons aund (cons aund (cons aund (cons aund (cons aund (cons aund (cons aund (cons aund (cons aund (cons aund (cons aund (cons aund (cons aund (cons aund (cons aund (cons aund (cons aund (cons aund (cons aund (cons aund (cons aund (cons aund (cons aund (cons aund nil))))))))))))))))))))))))))))))))))))))))))))))))))))))))))))))))))))))))))))))))))))))))))))))))))))))))))))))))))))))))))))))))))))))) nil nil)
end
theorem q_AC_1 : ∀ b, (Q_AC_1).em b = St.mk [un, un, rU b.1.2.2.1, un, un, un, un, un, rU b.1.c8.1, rU b.1.c8.2.1, rU b.1.c8.2.2.1,
 un, un, un, rU b.1.c8.c4.2.2.1, rU b.1.c8.c4.2.2.2.1, rU b.1.c16.1, rU b.1.c16.2.1,
 rU b.1.c16.2.2.1, un, un, un, un, un, un, un, un, un, un, un, un, un, un, un, un, un, un, un, un, un, un, un, un, un, un, un, un,
 un, un, un, un, un, un, un, un, un, un, un, un, un, un, un, un, un, un, un, un, un, un, un, un, un, un, un, un, un, un, un, un, un, un, un, un, un, un,
 un, un, un, un, un, un, un, un, un, un, un, un, un, un, un, un, un, un, un, un, un, un, un, un, un, un, un, un, un, un, un, un, un, un, un, un, un, un,
 un, un, un, un, un, un, un, un, un, un, un, un] [] [] := fun b => by kernel_rfl
def R_AC_1 (l : ∀ {ρ : Type}, (Int × Int × Int × Int × Int × Int × Int × Int × Int) → ((Int × Int × Int × Int × Int × Int × Int × Int × Int × Int × Bool × Int × Bool ⊕ Int × Int × Int × Int × Int × Int × Int × Int × Int × Int × Bool × Int × Int × Int × Int × Bool × Bool ⊕ Int × Int × Int × Int × Int ×
 Int × Int × Int × Int × Bool × Int × Int × Int × Bool) → Option ρ) → Option ρ) {ρ : Type} (s : St) (K : AX → St → Option ρ) : Option ρ := ((Q_AC_1).rd s).bind fun b => l (b.1.2.2.1, b.1.c8.1, b.1.c8.2.1, b.1.c8.2.2.1, b.1.c8.c4.2.2.1, b.1.c8.c4.2.2.2.1,
 b.1.c16.1, b.1.c16.2.1, b.1.c16.2.2.1) (Sum.elim (fun d => K (AX.ex 2) (St.mk [un, un, rU d.1, un, un, un, un, un, rU d.2.1,
 rU d.2.2.1, rU d.2.2.2.1, un, un, un, rU d.c4.1, rU d.c4.2.1, rU d.c4.2.2.1, rU d.c4.2.2.2.1,
 rU d.c8.1, un, un, un, un, un, un, un, un, un, un, un, un, un, un, un, un, un, un, un, un, un, un, un, un, un, un, un, un, un, un, un,
 un, un, un, un, un, un, un, un, un, un, un, un, un, un, un, un, un, un, un, un, un, un, un, un, un, un, un, un, un, un, un, un, un, un, un, un, un, un,
 un, un, un, un, un, un, un, un, un, un, un, un, un, un, rU d.c8.2.1, rB d.c8.2.2.1, rB true, AV.tup [], AV.tup [], AV.tup [], AV.tup [], AV.tup [],
 AV.tup [], AV.tup [], AV.tup [], rB true, rU d.c8.2.1, rU d.c8.1, rU d.c8.2.2.2.1, rU d.2.2.1, rU d.c4.2.2.1,
 rU d.c4.2.2.1, rB d.c8.c4, un, un, un, un, un, un, un, un, un, un, un, un, un, un] [] [])) (Sum.elim (fun d => K (AX.ex 2) (St.mk [un, un, rU d.1,
 un, un, un, un, un, rU d.2.1, rU d.2.2.1, rU d.2.2.2.1, un, un, un, rU d.c4.1, rU d.c4.2.1,
 rU d.c4.2.2.1, rU d.c4.2.2.2.1, rU d.c8.1, un, un, un, un, un, un, un, un, un, un, un, un, un, un, un, un, un,
 un, un, un, un, un, un, un, un, un, un, un, un, un, un, un, un, un, un, un, un, un, un, un, un, un, un, un, un, un, un, un, un, un, un, un, un, un, un,
 un, un, un, un, un, un, un, un, un, un, un, un, un, un, un, un, un, un, un, un, un, un, un, un, un, un, un, un, rU d.c8.2.1, rB d.c8.2.2.1,
 rB false, rU d.c8.2.1, rU d.2.2.2.1, rU d.c8.2.2.2.1, rU d.c8.c4.1, rU d.c8.c4.2.1,
 rU d.c4.1, rU d.c8.c4.2.2.1, rB d.c8.c4.2.2.2.1, rB d.c8.c4.2.2.2.1, rU d.c8.2.1,
 rU d.c8.1, rU d.c8.c4.1, rU d.2.2.1, rU d.c4.2.2.1, rU d.c4.2.2.1, rB d.c16,
 un, un, un, un, un, un, un, un, un, un, un, un, un, un] [] [])) (fun d => K (AX.ex 2) (St.mk [un, un, rU d.1, un, un, un, un, un, rU d.2.1, rU d.2.2.1,
 rU d.2.2.2.1, un, un, un, rU d.c4.1, rU d.c4.2.1, rU d.c4.2.2.1, rU d.c4.2.2.2.1, rU d.c8.1,
 un, un, un, un, un, un, un, un, un, un, un, un, un, un, un, un, un, un, un, un, un, un, un, un, un, un, un, un, un, un, un, un, un, un, un, un, un, un,
 un, un, un, un, un, un, un, un, un, un, un, un, un, un, un, un, un, un, un, un, un, un, un, un, un, un, un, un, un, un, un, un, un, un, un, un, un, un,
 un, un, un, un, un, un, un, rU d.c8.1, rB d.c8.2.1, rB false, rU d.c8.1, rU d.2.2.2.1,
 rU d.c8.2.2.1, rU d.c4.2.2.1, rU d.c8.2.2.2.1, rU d.c4.1, rU d.c8.c4.1,
 rB d.c8.c4.2, rB d.c8.c4.2, un, un, un, un, un, un, un, un, un, un, un, un, un, un, un, un, un, un, un, un, un] [] []))))
theorem ms_AC_1 {ρ σ : Type} (g_Al : t2C2) (q : ρ → Option σ) (x0 : Int) (x1 : Int) (x2 : Int) (x3 : Int) (x4 : Int) (x5 : Int) (x6 : Int) (x7 : Int) (x8 : Int) (c : (Int × Int × Int × Int × Int × Int × Int × Int × Int) → Option ρ) (x : (Int × Int × Int × Int × Int × Int × Int × Int × Int ×
 Int × Bool × Int × Bool ⊕ Int × Int × Int × Int × Int × Int × Int × Int × Int × Int × Bool × Int × Int × Int × Int × Bool × Bool ⊕ Int × Int × Int × Int × Int × Int × Int × Int × Int × Bool × Int × Int × Int × Bool) → Option ρ) : (S_AC_1 g_Al x0 x1 x2 x3 x4 x5 x6 x7 x8 c x).bind q = S_AC_1 g_Al x0 x1 x2 x3 x4 x5 x6 x7 x8 (fun d => (c d).bind q) (fun d => (x d).bind q) := by
  simp only [S_AC_1, bnd_cond, bnd_bind, bnd_none, bnd_sum]
def L_AC_1 {ρ : Type} (d : Int × Int × Int × Int × Int × Int × Int × Int × Int) (k : (Int × Int × Int × Int × Int × Int × Int × Int × Int × Int × Bool × Int × Bool ⊕ Int × Int × Int × Int × Int × Int × Int × Int × Int × Int × Bool × Int × Int × Int × Int × Bool × Bool ⊕ Int × Int × Int × Int × Int ×
 Int × Int × Int × Int × Bool × Int × Int × Int × Bool) → Option ρ) : Option ρ := loopK (fun d c x => S_AC_1 f_Al d.1 d.2.1 d.2.2.1 d.2.2.2.1 d.c4.1 d.c4.2.1 d.c4.2.2.1 d.c4.2.2.2.1 d.c8 c x) 200 d k
theorem mL_AC_1 {ρ σ : Type} (q : ρ → Option σ) (d : Int × Int × Int × Int × Int × Int × Int × Int × Int) (k : (Int × Int × Int × Int × Int × Int × Int × Int × Int × Int × Bool × Int × Bool ⊕ Int × Int × Int × Int × Int × Int × Int × Int × Int × Int × Bool × Int × Int × Int × Int × Bool × Bool ⊕ Int ×
 Int × Int × Int × Int × Int × Int × Int × Int × Bool × Int × Int × Int × Bool) → Option ρ) : (L_AC_1 d k).bind q = L_AC_1 d fun x => (k x).bind q := loopK_bind q (fun d c x => ms_AC_1 f_Al q d.1 d.2.1 d.2.2.1 d.2.2.2.1 d.c4.1 d.c4.2.1 d.c4.2.2.1 d.c4.2.2.2.1 d.c8 c x) k _ d
theorem ds_AC_0 {ρ : Type} (g_Al : t2C2) (l_0 : ∀ {ρ : Type}, (Int × Int × Int × Int × Int × Int × Int × Int × Int) → ((Int × Int × Int × Int × Int × Int × Int × Int × Int × Int × Bool × Int × Bool ⊕ Int × Int × Int × Int × Int × Int × Int × Int × Int × Int × Bool × Int × Int × Int × Int ×
 Bool × Bool ⊕ Int × Int × Int × Int × Int × Int × Int × Int × Int × Bool × Int × Int × Int × Bool) → Option ρ) → Option ρ) (l_1 : ∀ {ρ : Type}, (Int × Int × Int × Int × Int × Int × Int × Int × Int) → ((Int × Int × Int × Int × Int × Int × Int × Int × Int × Int × Bool × Int × Bool ⊕ Int × Int × Int × Int ×
 Int × Int × Int × Int × Int × Int × Bool × Int × Int × Int × Int × Bool × Bool ⊕ Int × Int × Int × Int × Int × Int × Int × Int × Int × Bool × Int × Int × Int × Bool) → Option ρ) → Option ρ) (x0 : Int) (x1 : Int) (x2 : Int) (x3 : Int) (x4 : Int) (x5 : Int) (x6 : Int) (x7 : Int) (x8 : Int) (c : St → Option ρ) (K : AX →
 St → Option ρ) : runC Try.prog (envOf [(89, F_Al g_Al)]) ⟨[⟨17, [0, 1, 3, 4, 5, 6, 7, 12, 17, 18, 19, 20, 21, 22, 23, 24, 25, 26, 27, 28, 29, 30, 31, 32, 33, 34, 35, 36, 37, 38, 39, 40, 41, 42, 43, 44, 45, 46, 47, 48, 49, 50, 51, 52, 53, 54, 55, 56, 57, 58, 59, 60, 61, 62, 63, 64, 65, 66, 67, 68, 69,
 78, 79, 80, 81, 82, 83, 84, 85, 86, 87, 88, 89, 90, 91, 92, 93, 94, 95, 96, 97, 98, 99, 100, 101, 102, 103, 104, 113, 114, 115, 116, 117, 118, 119, 120, 121, 122, 123, 124, 125, 126, 127, 128, 129, 130, 131, 132, 133, 134, 70, 71, 72, 73, 74, 75, 76, 77], []⟩, ⟨24, [0, 1, 3, 4, 5, 6, 7, 11, 12, 13, 19,
 20, 21, 22, 23, 24, 25, 26, 27, 28, 29, 30, 31, 32, 33, 34, 35, 36, 37, 38, 39, 40, 41, 42, 43, 44, 45, 46, 47, 48, 49, 50, 51, 52, 53, 54, 55, 56, 57, 58, 59, 60, 61, 62, 63, 64, 65, 66, 67, 68, 69, 70, 71, 72, 73, 74, 75, 76, 77, 78, 79, 80, 81, 82, 83, 84, 85, 86, 87, 88, 89, 90, 91, 92, 93, 94, 95,
 96, 97, 98, 99, 100, 101, 102, 103, 104, 113, 114, 115, 116, 117, 118, 119, 120, 121, 122, 123, 124, 125, 126, 127, 128, 129, 130, 131, 132, 133, 134, 105, 106, 107, 108, 109, 110, 111, 112], []⟩], [⟨17, 0, @R_AC_0 (@l_0)⟩, ⟨24, 0, @R_AC_1 (@l_1)⟩], [], [], none⟩ (tmpsOf Try.prog 54) 0 200 (loopIn Try.prog 54 17) (St.mk [un,
 un, rU x0, un, un, un, un, un, rU x1, rU x2, rU x3, rU x4, un, rU x5,
 rU x6, rU x7, rU x8, un, un, un, un, un, un, un, un, un, un, un, un, un, un, un, un, un, un, un, un, un, un,
 un, un, un, un, un, un, un, un, un, un, un, un, un, un, un, un, un, un, un, un, un, un, un, un, un, un, un, un, un, un, un, un, un, un, un, un, un, un,
 un, un, un, un, un, un, un, un, un, un, un, un, un, un, un, un, un, un, un, un, un, un, un, un, un, un, un, un, AV.tup [], AV.tup [], AV.tup [], AV.tup [], AV.tup [], AV.tup [], AV.tup [],
 AV.tup [], un, un, un, un, un, un, un, un, un, un, un, un, un, un, un, un, un, un, un, un, un, un] [] []) (next (fun t => t.head 0 ⟨[⟨17, [0, 1, 3, 4, 5, 6, 7, 12, 17, 18, 19, 20, 21, 22, 23, 24, 25, 26, 27, 28, 29,
 30, 31, 32, 33, 34, 35, 36, 37, 38, 39, 40, 41, 42, 43, 44, 45, 46, 47, 48, 49, 50, 51, 52, 53, 54, 55, 56, 57, 58, 59, 60, 61, 62, 63, 64, 65, 66, 67, 68, 69, 78, 79, 80, 81, 82, 83, 84, 85, 86, 87, 88, 89, 90, 91, 92, 93, 94, 95, 96, 97, 98, 99, 100, 101, 102, 103, 104, 113, 114, 115, 116, 117, 118,
 119, 120, 121, 122, 123, 124, 125, 126, 127, 128, 129, 130, 131, 132, 133, 134, 70, 71, 72, 73, 74, 75, 76, 77], []⟩, ⟨24, [0, 1, 3, 4, 5, 6, 7, 11, 12, 13, 19, 20, 21, 22, 23, 24, 25, 26, 27, 28, 29, 30, 31, 32, 33, 34, 35, 36, 37, 38, 39, 40, 41, 42, 43, 44, 45, 46, 47, 48, 49, 50, 51, 52, 53, 54,
 55, 56, 57, 58, 59, 60, 61, 62, 63, 64, 65, 66, 67, 68, 69, 70, 71, 72, 73, 74, 75, 76, 77, 78, 79, 80, 81, 82, 83, 84, 85, 86, 87, 88, 89, 90, 91, 92, 93, 94, 95, 96, 97, 98, 99, 100, 101, 102, 103, 104, 113, 114, 115, 116, 117, 118, 119, 120, 121, 122, 123, 124, 125, 126, 127, 128, 129, 130, 131, 132,
 133, 134, 105, 106, 107, 108, 109, 110, 111, 112], []⟩], [⟨17, 0, @R_AC_0 (@l_0)⟩, ⟨24, 0, @R_AC_1 (@l_1)⟩], [], [], none⟩ (loopIn Try.prog 54 17)) c K) = S_AC_0 g_Al x0 x1 x2 x3 x4 x5 x6 x7 x8 (fun d => c (St.mk [un, un, rU d.1, un, un, un, un,
 un, rU d.2.1, rU d.2.2.1, rU d.2.2.2.1, rU d.c4.1, un, rU d.c4.2.1, rU d.c4.2.2.1,
 rU d.c4.2.2.2.1, rU d.c8, un, un, un, un, un, un, un, un, un, un, un, un, un, un, un, un, un, un, un, un, un, un, un, un,
 un, un, un, un, un, un, un, un, un, un, un, un, un, un, un, un, un, un, un, un, un, un, un, un, un, un, un, un, un, un, un, un, un, un, un, un, un, un,
 un, un, un, un, un, un, un, un, un, un, un, un, un, un, un, un, un, un, un, un, un, un, un, un, un, un, AV.tup [], AV.tup [], AV.tup [], AV.tup [], AV.tup [], AV.tup [], AV.tup [], AV.tup [], un,
 un, un, un, un, un, un, un, un, un, un, un, un, un, un, un, un, un, un, un, un, un] [] [])) (Sum.elim (fun d => K (AX.ex 0) (St.mk [un, un, rU d.1, un, un, un, un,
 un, rU d.2.1, rU d.2.2.1, rU d.2.2.2.1, rU d.c4.1, un, rU d.c4.2.1, rU d.c4.2.2.1,
 rU d.c4.2.2.2.1, rU d.c8.1, un, un, un, un, un, un, un, un, un, un, un, un, un, un, un, un, un, un, un, un, un, un, un, un,
 un, un, un, un, un, un, un, un, un, un, un, un, un, un, un, un, un, un, un, un, un, un, un, un, un, un, rU d.c8.2.1, rB d.c8.2.2.1,
 rB true, AV.tup [], AV.tup [], AV.tup [], AV.tup [], AV.tup [], AV.tup [], AV.tup [], AV.tup [], rB true, rU d.c8.2.1, rU d.c4.2.2.2.1, rU d.c8.2.2.2.1,
 rU d.2.2.1, rU d.c8.1, rU d.c8.1, rB d.c8.c4, un, un, un, un, un, un, un, un, un, un, un,
 un, un, un, un, un, un, un, un, AV.tup [], AV.tup [], AV.tup [], AV.tup [], AV.tup [], AV.tup [], AV.tup [], AV.tup [], un, un, un, un, un, un, un, un, un, un, un, un, un, un, un, un, un, un, un,
 un, un, un] [] [])) (Sum.elim (fun d => K (AX.ex 0) (St.mk [un, un, rU d.1, un, un, un, un, un, rU d.2.1, rU d.2.2.1, rU d.2.2.2.1,
 rU d.c4.1, un, rU d.c4.2.1, rU d.c4.2.2.1, rU d.c4.2.2.2.1, rU d.c8.1, un, un, un,
 un, un, un, un, un, un, un, un, un, un, un, un, un, un, un, un, un, un, un, un, un, un, un, un, un, un, un, un, un, un, un, un, un, un, un, un, un, un,
 un, un, un, un, un, un, un, un, un, rU d.c8.2.1, rB d.c8.2.2.1, rB false, rU d.c8.2.1, rU d.2.2.2.1,
 rU d.c8.2.2.2.1, rU d.c8.c4.1, rU d.c8.c4.2.1, rU d.c4.2.1, rU d.c8.c4.2.2.1,
 rB d.c8.c4.2.2.2.1, rB d.c8.c4.2.2.2.1, rU d.c8.2.1, rU d.c4.2.2.2.1, rU d.c8.c4.1,
 rU d.2.2.1, rU d.c8.1, rU d.c8.1, rB d.c16, un, un, un, un, un, un, un, un, un, un,
 un, un, un, un, un, un, un, un, un, AV.tup [], AV.tup [], AV.tup [], AV.tup [], AV.tup [], AV.tup [], AV.tup [], AV.tup [], un, un, un, un, un, un, un, un, un, un, un, un, un, un, un, un, un, un,
 un, un, un, un] [] [])) (fun d => K (AX.ex 0) (St.mk [un, un, rU d.1, un, un, un, un, un, rU d.2.1, rU d.2.2.1, rU d.2.2.2.1,
 rU d.c4.1, un, rU d.c4.2.1, rU d.c4.2.2.1, rU d.c4.2.2.2.1, rU d.c8.1, un, un, un,
 un, un, un, un, un, un, un, un, un, un, un, un, un, un, un, un, un, un, un, un, un, un, un, un, un, un, un, un, un, un, un, un, un, un, un, un, un, un,
 un, un, un, un, un, un, un, un, un, rU d.c4.2.2.2.1, rB d.c8.2.1, rB false, rU d.c4.2.2.2.1, rU d.2.2.2.1,
 rU d.c8.2.2.1, rU d.c8.1, rU d.c8.2.2.2.1, rU d.c4.2.1, rU d.c8.c4.1,
 rB d.c8.c4.2, rB d.c8.c4.2, un, un, un, un, un, un, un, un, un, un, un, un, un, un, un, un, un, un, un, un, un, un, un, un,
 un, un, AV.tup [], AV.tup [], AV.tup [], AV.tup [], AV.tup [], AV.tup [], AV.tup [], AV.tup [], un, un, un, un, un, un, un, un, un, un, un, un, un, un, un, un, un, un, un, un, un, un] [] [])))) := by kernel_rfl
theorem it_AC_0 {ρ : Type} (x0 : Int) (x1 : Int) (x2 : Int) (x3 : Int) (x4 : Int) (x5 : Int) (x6 : Int) (x7 : Int) (x8 : Int) (K : AX → St → Option ρ) : iter (fun t => t.head 0 ⟨[⟨17, [0, 1, 3, 4, 5, 6, 7, 12, 17, 18, 19, 20, 21, 22, 23, 24, 25, 26, 27, 28, 29, 30, 31, 32, 33, 34, 35, 36, 37, 38, 39,
 40, 41, 42, 43, 44, 45, 46, 47, 48, 49, 50, 51, 52, 53, 54, 55, 56, 57, 58, 59, 60, 61, 62, 63, 64, 65, 66, 67, 68, 69, 78, 79, 80, 81, 82, 83, 84, 85, 86, 87, 88, 89, 90, 91, 92, 93, 94, 95, 96, 97, 98, 99, 100, 101, 102, 103, 104, 113, 114, 115, 116, 117, 118, 119, 120, 121, 122, 123, 124, 125, 126,
 127, 128, 129, 130, 131, 132, 133, 134, 70, 71, 72, 73, 74, 75, 76, 77], []⟩, ⟨24, [0, 1, 3, 4, 5, 6, 7, 11, 12, 13, 19, 20, 21, 22, 23, 24, 25, 26, 27, 28, 29, 30, 31, 32, 33, 34, 35, 36, 37, 38, 39, 40, 41, 42, 43, 44, 45, 46, 47, 48, 49, 50, 51, 52, 53, 54, 55, 56, 57, 58, 59, 60, 61, 62, 63, 64,
 65, 66, 67, 68, 69, 70, 71, 72, 73, 74, 75, 76, 77, 78, 79, 80, 81, 82, 83, 84, 85, 86, 87, 88, 89, 90, 91, 92, 93, 94, 95, 96, 97, 98, 99, 100, 101, 102, 103, 104, 113, 114, 115, 116, 117, 118, 119, 120, 121, 122, 123, 124, 125, 126, 127, 128, 129, 130, 131, 132, 133, 134, 105, 106, 107, 108, 109, 110,
 111, 112], []⟩], [⟨17, 0, @R_AC_0 (@L_AC_0)⟩, ⟨24, 0, @R_AC_1 (@L_AC_1)⟩], [], [], none⟩ (loopIn Try.prog 54 17)) (runC Try.prog (envOf [(89, F_Al f_Al)]) ⟨[⟨17, [0, 1, 3, 4, 5, 6, 7, 12, 17, 18, 19, 20, 21, 22, 23, 24, 25, 26, 27, 28, 29, 30, 31, 32, 33, 34, 35, 36, 37, 38, 39, 40, 41, 42, 43, 44, 45,
 46, 47, 48, 49, 50, 51, 52, 53, 54, 55, 56, 57, 58, 59, 60, 61, 62, 63, 64, 65, 66, 67, 68, 69, 78, 79, 80, 81, 82, 83, 84, 85, 86, 87, 88, 89, 90, 91, 92, 93, 94, 95, 96, 97, 98, 99, 100, 101, 102, 103, 104, 113, 114, 115, 116, 117, 118, 119, 120, 121, 122, 123, 124, 125, 126, 127, 128, 129, 130, 131,
 132, 133, 134, 70, 71, 72, 73, 74, 75, 76, 77], []⟩, ⟨24, [0, 1, 3, 4, 5, 6, 7, 11, 12, 13, 19, 20, 21, 22, 23, 24, 25, 26, 27, 28, 29, 30, 31, 32, 33, 34, 35, 36, 37, 38, 39, 40, 41, 42, 43, 44, 45, 46, 47, 48, 49, 50, 51, 52, 53, 54, 55, 56, 57, 58, 59, 60, 61, 62, 63, 64, 65, 66, 67, 68, 69, 70, 71,
 72, 73, 74, 75, 76, 77, 78, 79, 80, 81, 82, 83, 84, 85, 86, 87, 88, 89, 90, 91, 92, 93, 94, 95, 96, 97, 98, 99, 100, 101, 102, 103, 104, 113, 114, 115, 116, 117, 118, 119, 120, 121, 122, 123, 124, 125, 126, 127, 128, 129, 130, 131, 132, 133, 134, 105, 106, 107, 108, 109, 110, 111, 112], []⟩], [⟨17, 0,
 @R_AC_0 (@L_AC_0)⟩, ⟨24, 0, @R_AC_1 (@L_AC_1)⟩], [], [], none⟩ (tmpsOf Try.prog 54) 0 200 (loopIn Try.prog 54 17)) K 200 (St.mk [un, un, rU x0, un, un, un, un, un, rU x1, rU x2,
 rU x3, rU x4, un, rU x5, rU x6, rU x7, rU x8, un, un, un, un, un, un,
 un, un, un, un, un, un, un, un, un, un, un, un, un, un, un, un, un, un, un, un, un, un, un, un, un, un, un, un, un, un, un, un, un, un, un, un, un, un,
 un, un, un, un, un, un, un, un, un, un, un, un, un, un, un, un, un, un, un, un, un, un, un, un, un, un, un, un, un, un, un, un, un, un, un, un, un, un,
 un, un, un, un, un, un, AV.tup [], AV.tup [], AV.tup [], AV.tup [], AV.tup [], AV.tup [], AV.tup [], AV.tup [], un, un, un, un, un, un, un, un, un, un, un, un, un, un, un, un, un, un, un, un, un,
 un] [] []) = L_AC_0 (x0, x1, x2, x3, x4, x5, x6, x7, x8) (Sum.elim (fun d => K (AX.ex 0) (St.mk [un, un, rU d.1, un, un, un, un, un, rU d.2.1, rU d.2.2.1, rU d.2.2.2.1,
 rU d.c4.1, un, rU d.c4.2.1, rU d.c4.2.2.1, rU d.c4.2.2.2.1, rU d.c8.1, un, un, un,
 un, un, un, un, un, un, un, un, un, un, un, un, un, un, un, un, un, un, un, un, un, un, un, un, un, un, un, un, un, un, un, un, un, un, un, un, un, un,
 un, un, un, un, un, un, un, un, un, rU d.c8.2.1, rB d.c8.2.2.1, rB true, AV.tup [], AV.tup [], AV.tup [], AV.tup [], AV.tup [], AV.tup [], AV.tup [], AV.tup [],
 rB true, rU d.c8.2.1, rU d.c4.2.2.2.1, rU d.c8.2.2.2.1, rU d.2.2.1, rU d.c8.1,
 rU d.c8.1, rB d.c8.c4, un, un, un, un, un, un, un, un, un, un, un, un, un, un, un, un, un, un, un, AV.tup [], AV.tup [], AV.tup [], AV.tup [],
 AV.tup [], AV.tup [], AV.tup [], AV.tup [], un, un, un, un, un, un, un, un, un, un, un, un, un, un, un, un, un, un, un, un, un, un] [] [])) (Sum.elim (fun d => K (AX.ex 0) (St.mk [un, un, rU d.1,
 un, un, un, un, un, rU d.2.1, rU d.2.2.1, rU d.2.2.2.1, rU d.c4.1, un, rU d.c4.2.1, rU d.c4.2.2.1,
 rU d.c4.2.2.2.1, rU d.c8.1, un, un, un, un, un, un, un, un, un, un, un, un, un, un, un, un, un, un, un, un, un, un, un, un,
 un, un, un, un, un, un, un, un, un, un, un, un, un, un, un, un, un, un, un, un, un, un, un, un, un, un, rU d.c8.2.1, rB d.c8.2.2.1,
 rB false, rU d.c8.2.1, rU d.2.2.2.1, rU d.c8.2.2.2.1, rU d.c8.c4.1, rU d.c8.c4.2.1,
 rU d.c4.2.1, rU d.c8.c4.2.2.1, rB d.c8.c4.2.2.2.1, rB d.c8.c4.2.2.2.1, rU d.c8.2.1,
 rU d.c4.2.2.2.1, rU d.c8.c4.1, rU d.2.2.1, rU d.c8.1, rU d.c8.1, rB d.c16,
 un, un, un, un, un, un, un, un, un, un, un, un, un, un, un, un, un, un, un, AV.tup [], AV.tup [], AV.tup [], AV.tup [], AV.tup [], AV.tup [], AV.tup [], AV.tup [], un, un, un, un, un, un, un, un,
 un, un, un, un, un, un, un, un, un, un, un, un, un, un] [] [])) (fun d => K (AX.ex 0) (St.mk [un, un, rU d.1, un, un, un, un, un, rU d.2.1, rU d.2.2.1,
 rU d.2.2.2.1, rU d.c4.1, un, rU d.c4.2.1, rU d.c4.2.2.1, rU d.c4.2.2.2.1, rU d.c8.1,
 un, un, un, un, un, un, un, un, un, un, un, un, un, un, un, un, un, un, un, un, un, un, un, un, un, un, un, un, un, un, un, un, un, un, un, un, un, un,
 un, un, un, un, un, un, un, un, un, un, un, un, rU d.c4.2.2.2.1, rB d.c8.2.1, rB false, rU d.c4.2.2.2.1, rU d.2.2.2.1,
 rU d.c8.2.2.1, rU d.c8.1, rU d.c8.2.2.2.1, rU d.c4.2.1, rU d.c8.c4.1,
 rB d.c8.c4.2, rB d.c8.c4.2, un, un, un, un, un, un, un, un, un, un, un, un, un, un, un, un, un, un, un, un, un, un, un, un,
 un, un, AV.tup [], AV.tup [], AV.tup [], AV.tup [], AV.tup [], AV.tup [], AV.tup [], AV.tup [], un, un, un, un, un, un, un, un, un, un, un, un, un, un, un, un, un, un, un, un, un, un] [] [])))) := iter_loopX (emb := fun (d : Int ×
 Int × Int × Int × Int × Int × Int × Int × Int) => St.mk [un, un, rU d.1, un, un, un, un, un, rU d.2.1, rU d.2.2.1, rU d.2.2.2.1, rU d.c4.1,
 un, rU d.c4.2.1, rU d.c4.2.2.1, rU d.c4.2.2.2.1, rU d.c8, un, un, un, un, un, un, un, un, un,
 un, un, un, un, un, un, un, un, un, un, un, un, un, un, un, un, un, un, un, un, un, un, un, un, un, un, un, un, un, un, un, un, un, un, un, un, un, un,
 un, un, un, un, un, un, un, un, un, un, un, un, un, un, un, un, un, un, un, un, un, un, un, un, un, un, un, un, un, un, un, un, un, un, un, un, un, un,
 un, un, un, AV.tup [], AV.tup [], AV.tup [], AV.tup [], AV.tup [], AV.tup [], AV.tup [], AV.tup [], un, un, un, un, un, un, un, un, un, un, un, un, un, un, un, un, un, un, un, un, un, un] [] []) (step := fun d c x => S_AC_0 f_Al d.1 d.2.1 d.2.2.1 d.2.2.2.1 d.c4.1 d.c4.2.1 d.c4.2.2.1 d.c4.2.2.2.1 d.c8 c x) (kx := (Sum.elim (fun d => K (AX.ex 0) (St.mk [un,
 un, rU d.1, un, un, un, un, un, rU d.2.1, rU d.2.2.1, rU d.2.2.2.1, rU d.c4.1, un, rU d.c4.2.1,
 rU d.c4.2.2.1, rU d.c4.2.2.2.1, rU d.c8.1, un, un, un, un, un, un, un, un, un, un, un, un, un, un, un, un, un,
 un, un, un, un, un, un, un, un, un, un, un, un, un, un, un, un, un, un, un, un, un, un, un, un, un, un, un, un, un, un, un, un, un, rU d.c8.2.1,
 rB d.c8.2.2.1, rB true, AV.tup [], AV.tup [], AV.tup [], AV.tup [], AV.tup [], AV.tup [], AV.tup [], AV.tup [], rB true, rU d.c8.2.1, rU d.c4.2.2.2.1,
 rU d.c8.2.2.2.1, rU d.2.2.1, rU d.c8.1, rU d.c8.1, rB d.c8.c4, un, un, un,
 un, un, un, un, un, un, un, un, un, un, un, un, un, un, un, un, AV.tup [], AV.tup [], AV.tup [], AV.tup [], AV.tup [], AV.tup [], AV.tup [], AV.tup [], un, un, un, un, un, un, un, un, un, un, un,
 un, un, un, un, un, un, un, un, un, un, un] [] [])) (Sum.elim (fun d => K (AX.ex 0) (St.mk [un, un, rU d.1, un, un, un, un, un, rU d.2.1, rU d.2.2.1,
 rU d.2.2.2.1, rU d.c4.1, un, rU d.c4.2.1, rU d.c4.2.2.1, rU d.c4.2.2.2.1, rU d.c8.1,
 un, un, un, un, un, un, un, un, un, un, un, un, un, un, un, un, un, un, un, un, un, un, un, un, un, un, un, un, un, un, un, un, un, un, un, un, un, un,
 un, un, un, un, un, un, un, un, un, un, un, un, rU d.c8.2.1, rB d.c8.2.2.1, rB false, rU d.c8.2.1,
 rU d.2.2.2.1, rU d.c8.2.2.2.1, rU d.c8.c4.1, rU d.c8.c4.2.1, rU d.c4.2.1,
 rU d.c8.c4.2.2.1, rB d.c8.c4.2.2.2.1, rB d.c8.c4.2.2.2.1, rU d.c8.2.1, rU d.c4.2.2.2.1,
 rU d.c8.c4.1, rU d.2.2.1, rU d.c8.1, rU d.c8.1, rB d.c16, un,
 un, un, un, un, un, un, un, un, un, un, un, un, un, un, un, un, un, un, AV.tup [], AV.tup [], AV.tup [], AV.tup [], AV.tup [], AV.tup [], AV.tup [], AV.tup [], un, un, un, un, un, un, un, un, un,
 un, un, un, un, un, un, un, un, un, un, un, un, un] [] [])) (fun d => K (AX.ex 0) (St.mk [un, un, rU d.1, un, un, un, un, un, rU d.2.1, rU d.2.2.1,
 rU d.2.2.2.1, rU d.c4.1, un, rU d.c4.2.1, rU d.c4.2.2.1, rU d.c4.2.2.2.1, rU d.c8.1,
 un, un, un, un, un, un, un, un, un, un, un, un, un, un, un, un, un, un, un, un, un, un, un, un, un, un, un, un, un, un, un, un, un, un, un, un, un, un,
 un, un, un, un, un, un, un, un, un, un, un, un, rU d.c4.2.2.2.1, rB d.c8.2.1, rB false, rU d.c4.2.2.2.1, rU d.2.2.2.1,
 rU d.c8.2.2.1, rU d.c8.1, rU d.c8.2.2.2.1, rU d.c4.2.1, rU d.c8.c4.1,
 rB d.c8.c4.2, rB d.c8.c4.2, un, un, un, un, un, un, un, un, un, un, un, un, un, un, un, un, un, un, un, un, un, un, un, un,
 un, un, AV.tup [], AV.tup [], AV.tup [], AV.tup [], AV.tup [], AV.tup [], AV.tup [], AV.tup [], un, un, un, un, un, un, un, un, un, un, un, un, un, un, un, un, un, un, un, un, un, un] [] []))))) (fun d c => ds_AC_0 f_Al (@L_AC_0) (@L_AC_1) d.1 d.2.1 d.2.2.1 d.2.2.2.1 d.c4.1 d.c4.2.1 d.c4.2.2.1 d.c4.2.2.2.1 d.c8 c K) 200 (x0,
 x1, x2, x3, x4, x5, x6, x7, x8)
theorem so_AC_0 [Amb] : ∀ kk, SumOK Try.prog (envOf [(89, F_Al f_Al)]) ⟨[⟨17, [0, 1, 3, 4, 5, 6, 7, 12, 17, 18, 19, 20, 21, 22, 23, 24, 25, 26, 27, 28, 29, 30, 31, 32, 33, 34, 35, 36, 37, 38, 39, 40, 41, 42, 43, 44, 45, 46, 47, 48, 49, 50, 51, 52, 53, 54, 55, 56, 57, 58, 59, 60, 61, 62, 63, 64, 65, 66,
 67, 68, 69, 78, 79, 80, 81, 82, 83, 84, 85, 86, 87, 88, 89, 90, 91, 92, 93, 94, 95, 96, 97, 98, 99, 100, 101, 102, 103, 104, 113, 114, 115, 116, 117, 118, 119, 120, 121, 122, 123, 124, 125, 126, 127, 128, 129, 130, 131, 132, 133, 134, 70, 71, 72, 73, 74, 75, 76, 77], []⟩, ⟨24, [0, 1, 3, 4, 5, 6, 7, 11,
 12, 13, 19, 20, 21, 22, 23, 24, 25, 26, 27, 28, 29, 30, 31, 32, 33, 34, 35, 36, 37, 38, 39, 40, 41, 42, 43, 44, 45, 46, 47, 48, 49, 50, 51, 52, 53, 54, 55, 56, 57, 58, 59, 60, 61, 62, 63, 64, 65, 66, 67, 68, 69, 70, 71, 72, 73, 74, 75, 76, 77, 78, 79, 80, 81, 82, 83, 84, 85, 86, 87, 88, 89, 90, 91, 92,
 93, 94, 95, 96, 97, 98, 99, 100, 101, 102, 103, 104, 113, 114, 115, 116, 117, 118, 119, 120, 121, 122, 123, 124, 125, 126, 127, 128, 129, 130, 131, 132, 133, 134, 105, 106, 107, 108, 109, 110, 111, 112], []⟩], [⟨17, 0, @R_AC_0 (@L_AC_0)⟩, ⟨24, 0, @R_AC_1 (@L_AC_1)⟩], [], [], none⟩ (tmpsOf Try.prog 54) kk 200 (loopIn Try.prog 54 17) := SumOK.of (id := 17) (k0 := 0) (run := @R_AC_0 (@L_AC_0)) (by kernel_rfl) fun s K r hr => by
    unfold R_AC_0 at hr
    obtain ⟨b, hb, hr1⟩ := Option.bind_eq_some_iff.1 hr
    have e := ((Q_AC_0).ok s b hb).trans (q_AC_0 b)
    subst e
    exact ⟨200, (it_AC_0 b.1.2.2.1 b.1.c8.1 b.1.c8.2.1 b.1.c8.2.2.1 b.1.c8.2.2.2.1 b.1.c8.c4.2.1 b.1.c8.c4.2.2.1 b.1.c8.c4.2.2.2.1 b.1.c16.1 K).trans hr1⟩
theorem ds_AC_1 {ρ : Type} (g_Al : t2C2) (l_0 : ∀ {ρ : Type}, (Int × Int × Int × Int × Int × Int × Int × Int × Int) → ((Int × Int × Int × Int × Int × Int × Int × Int × Int × Int × Bool × Int × Bool ⊕ Int × Int × Int × Int × Int × Int × Int × Int × Int × Int × Bool × Int × Int × Int × Int ×
 Bool × Bool ⊕ Int × Int × Int × Int × Int × Int × Int × Int × Int × Bool × Int × Int × Int × Bool) → Option ρ) → Option ρ) (l_1 : ∀ {ρ : Type}, (Int × Int × Int × Int × Int × Int × Int × Int × Int) → ((Int × Int × Int × Int × Int × Int × Int × Int × Int × Int × Bool × Int × Bool ⊕ Int × Int × Int × Int ×
 Int × Int × Int × Int × Int × Int × Bool × Int × Int × Int × Int × Bool × Bool ⊕ Int × Int × Int × Int × Int × Int × Int × Int × Int × Bool × Int × Int × Int × Bool) → Option ρ) → Option ρ) (x0 : Int) (x1 : Int) (x2 : Int) (x3 : Int) (x4 : Int) (x5 : Int) (x6 : Int) (x7 : Int) (x8 : Int) (c : St → Option ρ) (K : AX →
 St → Option ρ) : runC Try.prog (envOf [(89, F_Al g_Al)]) ⟨[⟨17, [0, 1, 3, 4, 5, 6, 7, 12, 17, 18, 19, 20, 21, 22, 23, 24, 25, 26, 27, 28, 29, 30, 31, 32, 33, 34, 35, 36, 37, 38, 39, 40, 41, 42, 43, 44, 45, 46, 47, 48, 49, 50, 51, 52, 53, 54, 55, 56, 57, 58, 59, 60, 61, 62, 63, 64, 65, 66, 67, 68, 69,
 78, 79, 80, 81, 82, 83, 84, 85, 86, 87, 88, 89, 90, 91, 92, 93, 94, 95, 96, 97, 98, 99, 100, 101, 102, 103, 104, 113, 114, 115, 116, 117, 118, 119, 120, 121, 122, 123, 124, 125, 126, 127, 128, 129, 130, 131, 132, 133, 134, 70, 71, 72, 73, 74, 75, 76, 77], []⟩, ⟨24, [0, 1, 3, 4, 5, 6, 7, 11, 12, 13, 19,
 20, 21, 22, 23, 24, 25, 26, 27, 28, 29, 30, 31, 32, 33, 34, 35, 36, 37, 38, 39, 40, 41, 42, 43, 44, 45, 46, 47, 48, 49, 50, 51, 52, 53, 54, 55, 56, 57, 58, 59, 60, 61, 62, 63, 64, 65, 66, 67, 68, 69, 70, 71, 72, 73, 74, 75, 76, 77, 78, 79, 80, 81, 82, 83, 84, 85, 86, 87, 88, 89, 90, 91, 92, 93, 94, 95,
 96, 97, 98, 99, 100, 101, 102, 103, 104, 113, 114, 115, 116, 117, 118, 119, 120, 121, 122, 123, 124, 125, 126, 127, 128, 129, 130, 131, 132, 133, 134, 105, 106, 107, 108, 109, 110, 111, 112], []⟩], [⟨17, 0, @R_AC_0 (@l_0)⟩, ⟨24, 0, @R_AC_1 (@l_1)⟩], [], [], none⟩ (tmpsOf Try.prog 54) 0 200 (loopIn Try.prog 54 24) (St.mk [un,
 un, rU x0, un, un, un, un, un, rU x1, rU x2, rU x3, un, un, un, rU x4, rU x5,
 rU x6, rU x7, rU x8, un, un, un, un, un, un, un, un, un, un, un, un, un, un, un, un, un, un, un, un, un, un,
 un, un, un, un, un, un, un, un, un, un, un, un, un, un, un, un, un, un, un, un, un, un, un, un, un, un, un, un, un, un, un, un, un, un, un, un, un, un,
 un, un, un, un, un, un, un, un, un, un, un, un, un, un, un, un, un, un, un, un, un, un, un, un, un, un, un, un, un, un, un, un, un, un, un, un, un, un,
 un, un, un, un, un, un, un, un, un, un, un, un, un, un, un, un, un, un] [] []) (next (fun t => t.head 0 ⟨[⟨17, [0, 1, 3, 4, 5, 6, 7, 12, 17, 18, 19, 20, 21, 22, 23, 24, 25, 26, 27, 28, 29, 30, 31, 32, 33, 34, 35, 36, 37, 38, 39,
 40, 41, 42, 43, 44, 45, 46, 47, 48, 49, 50, 51, 52, 53, 54, 55, 56, 57, 58, 59, 60, 61, 62, 63, 64, 65, 66, 67, 68, 69, 78, 79, 80, 81, 82, 83, 84, 85, 86, 87, 88, 89, 90, 91, 92, 93, 94, 95, 96, 97, 98, 99, 100, 101, 102, 103, 104, 113, 114, 115, 116, 117, 118, 119, 120, 121, 122, 123, 124, 125, 126,
 127, 128, 129, 130, 131, 132, 133, 134, 70, 71, 72, 73, 74, 75, 76, 77], []⟩, ⟨24, [0, 1, 3, 4, 5, 6, 7, 11, 12, 13, 19, 20, 21, 22, 23, 24, 25, 26, 27, 28, 29, 30, 31, 32, 33, 34, 35, 36, 37, 38, 39, 40, 41, 42, 43, 44, 45, 46, 47, 48, 49, 50, 51, 52, 53, 54, 55, 56, 57, 58, 59, 60, 61, 62, 63, 64,
 65, 66, 67, 68, 69, 70, 71, 72, 73, 74, 75, 76, 77, 78, 79, 80, 81, 82, 83, 84, 85, 86, 87, 88, 89, 90, 91, 92, 93, 94, 95, 96, 97, 98, 99, 100, 101, 102, 103, 104, 113, 114, 115, 116, 117, 118, 119, 120, 121, 122, 123, 124, 125, 126, 127, 128, 129, 130, 131, 132, 133, 134, 105, 106, 107, 108, 109, 110,
 111, 112], []⟩], [⟨17, 0, @R_AC_0 (@l_0)⟩, ⟨24, 0, @R_AC_1 (@l_1)⟩], [], [], none⟩ (loopIn Try.prog 54 24)) c K) = S_AC_1 g_Al x0 x1 x2 x3 x4 x5 x6 x7 x8 (fun d => c (St.mk [un, un, rU d.1, un, un, un, un, un, rU d.2.1,
 rU d.2.2.1, rU d.2.2.2.1, un, un, un, rU d.c4.1, rU d.c4.2.1, rU d.c4.2.2.1, rU d.c4.2.2.2.1,
 rU d.c8, un, un, un, un, un, un, un, un, un, un, un, un, un, un, un, un, un, un, un, un, un, un, un, un, un, un, un, un, un, un, un,
 un, un, un, un, un, un, un, un, un, un, un, un, un, un, un, un, un, un, un, un, un, un, un, un, un, un, un, un, un, un, un, un, un, un, un, un, un, un,
 un, un, un, un, un, un, un, un, un, un, un, un, un, un, un, un, un, un, un, un, un, un, un, un, un, un, un, un, un, un, un, un, un, un, un, un, un, un,
 un, un, un, un, un, un, un, un, un] [] [])) (Sum.elim (fun d => K (AX.ex 2) (St.mk [un, un, rU d.1, un, un, un, un, un, rU d.2.1, rU d.2.2.1,
 rU d.2.2.2.1, un, un, un, rU d.c4.1, rU d.c4.2.1, rU d.c4.2.2.1, rU d.c4.2.2.2.1, rU d.c8.1,
 un, un, un, un, un, un, un, un, un, un, un, un, un, un, un, un, un, un, un, un, un, un, un, un, un, un, un, un, un, un, un, un, un, un, un, un, un, un,
 un, un, un, un, un, un, un, un, un, un, un, un, un, un, un, un, un, un, un, un, un, un, un, un, un, un, un, un, un, un, un, un, un, un, un, un, un, un,
 un, un, un, un, un, un, un, rU d.c8.2.1, rB d.c8.2.2.1, rB true, AV.tup [], AV.tup [], AV.tup [], AV.tup [], AV.tup [], AV.tup [], AV.tup [], AV.tup [], rB true,
 rU d.c8.2.1, rU d.c8.1, rU d.c8.2.2.2.1, rU d.2.2.1, rU d.c4.2.2.1, rU d.c4.2.2.1,
 rB d.c8.c4, un, un, un, un, un, un, un, un, un, un, un, un, un, un] [] [])) (Sum.elim (fun d => K (AX.ex 2) (St.mk [un, un, rU d.1, un, un, un, un,
 un, rU d.2.1, rU d.2.2.1, rU d.2.2.2.1, un, un, un, rU d.c4.1, rU d.c4.2.1, rU d.c4.2.2.1,
 rU d.c4.2.2.2.1, rU d.c8.1, un, un, un, un, un, un, un, un, un, un, un, un, un, un, un, un, un, un, un, un, un, un, un, un,
 un, un, un, un, un, un, un, un, un, un, un, un, un, un, un, un, un, un, un, un, un, un, un, un, un, un, un, un, un, un, un, un, un, un, un, un, un, un,
 un, un, un, un, un, un, un, un, un, un, un, un, un, un, un, un, un, un, un, un, un, rU d.c8.2.1, rB d.c8.2.2.1, rB false,
 rU d.c8.2.1, rU d.2.2.2.1, rU d.c8.2.2.2.1, rU d.c8.c4.1, rU d.c8.c4.2.1,
 rU d.c4.1, rU d.c8.c4.2.2.1, rB d.c8.c4.2.2.2.1, rB d.c8.c4.2.2.2.1, rU d.c8.2.1,
 rU d.c8.1, rU d.c8.c4.1, rU d.2.2.1, rU d.c4.2.2.1, rU d.c4.2.2.1, rB d.c16,
 un, un, un, un, un, un, un, un, un, un, un, un, un, un] [] [])) (fun d => K (AX.ex 2) (St.mk [un, un, rU d.1, un, un, un, un, un, rU d.2.1, rU d.2.2.1,
 rU d.2.2.2.1, un, un, un, rU d.c4.1, rU d.c4.2.1, rU d.c4.2.2.1, rU d.c4.2.2.2.1, rU d.c8.1,
 un, un, un, un, un, un, un, un, un, un, un, un, un, un, un, un, un, un, un, un, un, un, un, un, un, un, un, un, un, un, un, un, un, un, un, un, un, un,
 un, un, un, un, un, un, un, un, un, un, un, un, un, un, un, un, un, un, un, un, un, un, un, un, un, un, un, un, un, un, un, un, un, un, un, un, un, un,
 un, un, un, un, un, un, un, rU d.c8.1, rB d.c8.2.1, rB false, rU d.c8.1, rU d.2.2.2.1,
 rU d.c8.2.2.1, rU d.c4.2.2.1, rU d.c8.2.2.2.1, rU d.c4.1, rU d.c8.c4.1,
 rB d.c8.c4.2, rB d.c8.c4.2, un, un, un, un, un, un, un, un, un, un, un, un, un, un, un, un, un, un, un, un, un] [] [])))) := by kernel_rfl
theorem it_AC_1 {ρ : Type} (x0 : Int) (x1 : Int) (x2 : Int) (x3 : Int) (x4 : Int) (x5 : Int) (x6 : Int) (x7 : Int) (x8 : Int) (K : AX → St → Option ρ) : iter (fun t => t.head 0 ⟨[⟨17, [0, 1, 3, 4, 5, 6, 7, 12, 17, 18, 19, 20, 21, 22, 23, 24, 25, 26, 27, 28, 29, 30, 31, 32, 33, 34, 35, 36, 37, 38, 39,
 40, 41, 42, 43, 44, 45, 46, 47, 48, 49, 50, 51, 52, 53, 54, 55, 56, 57, 58, 59, 60, 61, 62, 63, 64, 65, 66, 67, 68, 69, 78, 79, 80, 81, 82, 83, 84, 85, 86, 87, 88, 89, 90, 91, 92, 93, 94, 95, 96, 97, 98, 99, 100, 101, 102, 103, 104, 113, 114, 115, 116, 117, 118, 119, 120, 121, 122, 123, 124, 125, 126,
 127, 128, 129, 130, 131, 132, 133, 134, 70, 71, 72, 73, 74, 75, 76, 77], []⟩, ⟨24, [0, 1, 3, 4, 5, 6, 7, 11, 12, 13, 19, 20, 21, 22, 23, 24, 25, 26, 27, 28, 29, 30, 31, 32, 33, 34, 35, 36, 37, 38, 39, 40, 41, 42, 43, 44, 45, 46, 47, 48, 49, 50, 51, 52, 53, 54, 55, 56, 57, 58, 59, 60, 61, 62, 63, 64,
 65, 66, 67, 68, 69, 70, 71, 72, 73, 74, 75, 76, 77, 78, 79, 80, 81, 82, 83, 84, 85, 86, 87, 88, 89, 90, 91, 92, 93, 94, 95, 96, 97, 98, 99, 100, 101, 102, 103, 104, 113, 114, 115, 116, 117, 118, 119, 120, 121, 122, 123, 124, 125, 126, 127, 128, 129, 130, 131, 132, 133, 134, 105, 106, 107, 108, 109, 110,
 111, 112], []⟩], [⟨17, 0, @R_AC_0 (@L_AC_0)⟩, ⟨24, 0, @R_AC_1 (@L_AC_1)⟩], [], [], none⟩ (loopIn Try.prog 54 24)) (runC Try.prog (envOf [(89, F_Al f_Al)]) ⟨[⟨17, [0, 1, 3, 4, 5, 6, 7, 12, 17, 18, 19, 20, 21, 22, 23, 24, 25, 26, 27, 28, 29, 30, 31, 32, 33, 34, 35, 36, 37, 38, 39, 40, 41, 42, 43, 44, 45,
 46, 47, 48, 49, 50, 51, 52, 53, 54, 55, 56, 57, 58, 59, 60, 61, 62, 63, 64, 65, 66, 67, 68, 69, 78, 79, 80, 81, 82, 83, 84, 85, 86, 87, 88, 89, 90, 91, 92, 93, 94, 95, 96, 97, 98, 99, 100, 101, 102, 103, 104, 113, 114, 115, 116, 117, 118, 119, 120, 121, 122, 123, 124, 125, 126, 127, 128, 129, 130, 131,
 132, 133, 134, 70, 71, 72, 73, 74, 75, 76, 77], []⟩, ⟨24, [0, 1, 3, 4, 5, 6, 7, 11, 12, 13, 19, 20, 21, 22, 23, 24, 25, 26, 27, 28, 29, 30, 31, 32, 33, 34, 35, 36, 37, 38, 39, 40, 41, 42, 43, 44, 45, 46, 47, 48, 49, 50, 51, 52, 53, 54, 55, 56, 57, 58, 59, 60, 61, 62, 63, 64, 65, 66, 67, 68, 69, 70, 71,
 72, 73, 74, 75, 76, 77, 78, 79, 80, 81, 82, 83, 84, 85, 86, 87, 88, 89, 90, 91, 92, 93, 94, 95, 96, 97, 98, 99, 100, 101, 102, 103, 104, 113, 114, 115, 116, 117, 118, 119, 120, 121, 122, 123, 124, 125, 126, 127, 128, 129, 130, 131, 132, 133, 134, 105, 106, 107, 108, 109, 110, 111, 112], []⟩], [⟨17, 0,
 @R_AC_0 (@L_AC_0)⟩, ⟨24, 0, @R_AC_1 (@L_AC_1)⟩], [], [], none⟩ (tmpsOf Try.prog 54) 0 200 (loopIn Try.prog 54 24)) K 200 (St.mk [un, un, rU x0, un, un, un, un, un, rU x1, rU x2,
 rU x3, un, un, un, rU x4, rU x5, rU x6, rU x7, rU x8, un, un, un, un,
 un, un, un, un, un, un, un, un, un, un, un, un, un, un, un, un, un, un, un, un, un, un, un, un, un, un, un, un, un, un, un, un, un, un, un, un, un, un,
 un, un, un, un, un, un, un, un, un, un, un, un, un, un, un, un, un, un, un, un, un, un, un, un, un, un, un, un, un, un, un, un, un, un, un, un, un, un,
 un, un, un, un, un, un, un, un, un, un, un, un, un, un, un, un, un, un, un, un, un, un, un, un, un, un, un, un, un, un, un, un, un, un, un, un] [] []) = L_AC_1 (x0,
 x1, x2, x3, x4, x5, x6, x7, x8) (Sum.elim (fun d => K (AX.ex 2) (St.mk [un, un, rU d.1, un, un, un, un, un, rU d.2.1, rU d.2.2.1, rU d.2.2.2.1,
 un, un, un, rU d.c4.1, rU d.c4.2.1, rU d.c4.2.2.1, rU d.c4.2.2.2.1, rU d.c8.1, un,
 un, un, un, un, un, un, un, un, un, un, un, un, un, un, un, un, un, un, un, un, un, un, un, un, un, un, un, un, un, un, un, un, un, un, un, un, un, un,
 un, un, un, un, un, un, un, un, un, un, un, un, un, un, un, un, un, un, un, un, un, un, un, un, un, un, un, un, un, un, un, un, un, un, un, un, un, un,
 un, un, un, un, un, un, rU d.c8.2.1, rB d.c8.2.2.1, rB true, AV.tup [], AV.tup [], AV.tup [], AV.tup [], AV.tup [], AV.tup [], AV.tup [], AV.tup [], rB true,
 rU d.c8.2.1, rU d.c8.1, rU d.c8.2.2.2.1, rU d.2.2.1, rU d.c4.2.2.1, rU d.c4.2.2.1,
 rB d.c8.c4, un, un, un, un, un, un, un, un, un, un, un, un, un, un] [] [])) (Sum.elim (fun d => K (AX.ex 2) (St.mk [un, un, rU d.1, un, un, un, un,
 un, rU d.2.1, rU d.2.2.1, rU d.2.2.2.1, un, un, un, rU d.c4.1, rU d.c4.2.1, rU d.c4.2.2.1,
 rU d.c4.2.2.2.1, rU d.c8.1, un, un, un, un, un, un, un, un, un, un, un, un, un, un, un, un, un, un, un, un, un, un, un, un,
 un, un, un, un, un, un, un, un, un, un, un, un, un, un, un, un, un, un, un, un, un, un, un, un, un, un, un, un, un, un, un, un, un, un, un, un, un, un,
 un, un, un, un, un, un, un, un, un, un, un, un, un, un, un, un, un, un, un, un, un, rU d.c8.2.1, rB d.c8.2.2.1, rB false,
 rU d.c8.2.1, rU d.2.2.2.1, rU d.c8.2.2.2.1, rU d.c8.c4.1, rU d.c8.c4.2.1,
 rU d.c4.1, rU d.c8.c4.2.2.1, rB d.c8.c4.2.2.2.1, rB d.c8.c4.2.2.2.1, rU d.c8.2.1,
 rU d.c8.1, rU d.c8.c4.1, rU d.2.2.1, rU d.c4.2.2.1, rU d.c4.2.2.1, rB d.c16,
 un, un, un, un, un, un, un, un, un, un, un, un, un, un] [] [])) (fun d => K (AX.ex 2) (St.mk [un, un, rU d.1, un, un, un, un, un, rU d.2.1, rU d.2.2.1,
 rU d.2.2.2.1, un, un, un, rU d.c4.1, rU d.c4.2.1, rU d.c4.2.2.1, rU d.c4.2.2.2.1, rU d.c8.1,
 un, un, un, un, un, un, un, un, un, un, un, un, un, un, un, un, un, un, un, un, un, un, un, un, un, un, un, un, un, un, un, un, un, un, un, un, un, un,
 un, un, un, un, un, un, un, un, un, un, un, un, un, un, un, un, un, un, un, un, un, un, un, un, un, un, un, un, un, un, un, un, un, un, un, un, un, un,
 un, un, un, un, un, un, un, rU d.c8.1, rB d.c8.2.1, rB false, rU d.c8.1, rU d.2.2.2.1,
 rU d.c8.2.2.1, rU d.c4.2.2.1, rU d.c8.2.2.2.1, rU d.c4.1, rU d.c8.c4.1,
 rB d.c8.c4.2, rB d.c8.c4.2, un, un, un, un, un, un, un, un, un, un, un, un, un, un, un, un, un, un, un, un, un] [] [])))) := iter_loopX (emb := fun (d : Int ×
 Int × Int × Int × Int × Int × Int × Int × Int) => St.mk [un, un, rU d.1, un, un, un, un, un, rU d.2.1, rU d.2.2.1, rU d.2.2.2.1, un,
 un, un, rU d.c4.1, rU d.c4.2.1, rU d.c4.2.2.1, rU d.c4.2.2.2.1, rU d.c8, un, un,
 un, un, un, un, un, un, un, un, un, un, un, un, un, un, un, un, un, un, un, un, un, un, un, un, un, un, un, un, un, un, un, un, un, un, un, un, un, un,
 un, un, un, un, un, un, un, un, un, un, un, un, un, un, un, un, un, un, un, un, un, un, un, un, un, un, un, un, un, un, un, un, un, un, un, un, un, un,
 un, un, un, un, un, un, un, un, un, un, un, un, un, un, un, un, un, un, un, un, un, un, un, un, un, un, un, un, un, un, un, un, un, un, un, un, un, un] [] []) (step := fun d c x => S_AC_1 f_Al d.1 d.2.1 d.2.2.1 d.2.2.2.1 d.c4.1 d.c4.2.1 d.c4.2.2.1 d.c4.2.2.2.1 d.c8 c x) (kx := (Sum.elim (fun d => K (AX.ex 2) (St.mk [un,
 un, rU d.1, un, un, un, un, un, rU d.2.1, rU d.2.2.1, rU d.2.2.2.1, un, un, un, rU d.c4.1,
 rU d.c4.2.1, rU d.c4.2.2.1, rU d.c4.2.2.2.1, rU d.c8.1, un, un, un, un, un, un, un, un, un, un,
 un, un, un, un, un, un, un, un, un, un, un, un, un, un, un, un, un, un, un, un, un, un, un, un, un, un, un, un, un, un, un, un, un, un, un, un, un, un,
 un, un, un, un, un, un, un, un, un, un, un, un, un, un, un, un, un, un, un, un, un, un, un, un, un, un, un, un, un, un, un, un, un, un, un, rU d.c8.2.1,
 rB d.c8.2.2.1, rB true, AV.tup [], AV.tup [], AV.tup [], AV.tup [], AV.tup [], AV.tup [], AV.tup [], AV.tup [], rB true, rU d.c8.2.1, rU d.c8.1,
 rU d.c8.2.2.2.1, rU d.2.2.1, rU d.c4.2.2.1, rU d.c4.2.2.1, rB d.c8.c4, un, un, un, un,
 un, un, un, un, un, un, un, un, un, un] [] [])) (Sum.elim (fun d => K (AX.ex 2) (St.mk [un, un, rU d.1, un, un, un, un, un, rU d.2.1, rU d.2.2.1,
 rU d.2.2.2.1, un, un, un, rU d.c4.1, rU d.c4.2.1, rU d.c4.2.2.1, rU d.c4.2.2.2.1, rU d.c8.1,
 un, un, un, un, un, un, un, un, un, un, un, un, un, un, un, un, un, un, un, un, un, un, un, un, un, un, un, un, un, un, un, un, un, un, un, un, un, un,
 un, un, un, un, un, un, un, un, un, un, un, un, un, un, un, un, un, un, un, un, un, un, un, un, un, un, un, un, un, un, un, un, un, un, un, un, un, un,
 un, un, un, un, un, un, un, rU d.c8.2.1, rB d.c8.2.2.1, rB false, rU d.c8.2.1, rU d.2.2.2.1,
 rU d.c8.2.2.2.1, rU d.c8.c4.1, rU d.c8.c4.2.1, rU d.c4.1, rU d.c8.c4.2.2.1,
 rB d.c8.c4.2.2.2.1, rB d.c8.c4.2.2.2.1, rU d.c8.2.1, rU d.c8.1, rU d.c8.c4.1,
 rU d.2.2.1, rU d.c4.2.2.1, rU d.c4.2.2.1, rB d.c16, un, un, un, un, un, un, un, un, un, un, un,
 un, un, un] [] [])) (fun d => K (AX.ex 2) (St.mk [un, un, rU d.1, un, un, un, un, un, rU d.2.1, rU d.2.2.1, rU d.2.2.2.1,
 un, un, un, rU d.c4.1, rU d.c4.2.1, rU d.c4.2.2.1, rU d.c4.2.2.2.1, rU d.c8.1, un,
 un, un, un, un, un, un, un, un, un, un, un, un, un, un, un, un, un, un, un, un, un, un, un, un, un, un, un, un, un, un, un, un, un, un, un, un, un, un,
 un, un, un, un, un, un, un, un, un, un, un, un, un, un, un, un, un, un, un, un, un, un, un, un, un, un, un, un, un, un, un, un, un, un, un, un, un, un,
 un, un, un, un, un, un, rU d.c8.1, rB d.c8.2.1, rB false, rU d.c8.1, rU d.2.2.2.1, rU d.c8.2.2.1,
 rU d.c4.2.2.1, rU d.c8.2.2.2.1, rU d.c4.1, rU d.c8.c4.1, rB d.c8.c4.2, rB d.c8.c4.2,
 un, un, un, un, un, un, un, un, un, un, un, un, un, un, un, un, un, un, un, un, un] [] []))))) (fun d c => ds_AC_1 f_Al (@L_AC_0) (@L_AC_1) d.1 d.2.1 d.2.2.1 d.2.2.2.1 d.c4.1 d.c4.2.1 d.c4.2.2.1 d.c4.2.2.2.1 d.c8 c K) 200 (x0,
 x1, x2, x3, x4, x5, x6, x7, x8)
theorem so_AC_1 [Amb] : ∀ kk, SumOK Try.prog (envOf [(89, F_Al f_Al)]) ⟨[⟨17, [0, 1, 3, 4, 5, 6, 7, 12, 17, 18, 19, 20, 21, 22, 23, 24, 25, 26, 27, 28, 29, 30, 31, 32, 33, 34, 35, 36, 37, 38, 39, 40, 41, 42, 43, 44, 45, 46, 47, 48, 49, 50, 51, 52, 53, 54, 55, 56, 57, 58, 59, 60, 61, 62, 63, 64, 65, 66,
 67, 68, 69, 78, 79, 80, 81, 82, 83, 84, 85, 86, 87, 88, 89, 90, 91, 92, 93, 94, 95, 96, 97, 98, 99, 100, 101, 102, 103, 104, 113, 114, 115, 116, 117, 118, 119, 120, 121, 122, 123, 124, 125, 126, 127, 128, 129, 130, 131, 132, 133, 134, 70, 71, 72, 73, 74, 75, 76, 77], []⟩, ⟨24, [0, 1, 3, 4, 5, 6, 7, 11,
 12, 13, 19, 20, 21, 22, 23, 24, 25, 26, 27, 28, 29, 30, 31, 32, 33, 34, 35, 36, 37, 38, 39, 40, 41, 42, 43, 44, 45, 46, 47, 48, 49, 50, 51, 52, 53, 54, 55, 56, 57, 58, 59, 60, 61, 62, 63, 64, 65, 66, 67, 68, 69, 70, 71, 72, 73, 74, 75, 76, 77, 78, 79, 80, 81, 82, 83, 84, 85, 86, 87, 88, 89, 90, 91, 92,
 93, 94, 95, 96, 97, 98, 99, 100, 101, 102, 103, 104, 113, 114, 115, 116, 117, 118, 119, 120, 121, 122, 123, 124, 125, 126, 127, 128, 129, 130, 131, 132, 133, 134, 105, 106, 107, 108, 109, 110, 111, 112], []⟩], [⟨17, 0, @R_AC_0 (@L_AC_0)⟩, ⟨24, 0, @R_AC_1 (@L_AC_1)⟩], [], [], none⟩ (tmpsOf Try.prog 54) kk 200 (loopIn Try.prog 54 24) := SumOK.of (id := 24) (k0 := 0) (run := @R_AC_1 (@L_AC_1)) (by kernel_rfl) fun s K r hr => by
    unfold R_AC_1 at hr
    obtain ⟨b, hb, hr1⟩ := Option.bind_eq_some_iff.1 hr
    have e := ((Q_AC_1).ok s b hb).trans (q_AC_1 b)
    subst e
    exact ⟨200, (it_AC_1 b.1.2.2.1 b.1.c8.1 b.1.c8.2.1 b.1.c8.2.2.1 b.1.c8.c4.2.2.1 b.1.c8.c4.2.2.2.1 b.1.c16.1 b.1.c16.2.1 b.1.c16.2.2.1 K).trans hr1⟩
def K_AC {ρ : Type} (g_Al : t2C2) (l_0 : ∀ {ρ : Type}, (Int × Int × Int × Int × Int × Int × Int × Int × Int) → ((Int × Int × Int × Int × Int × Int × Int × Int × Int × Int × Bool × Int × Bool ⊕ Int × Int × Int × Int × Int × Int × Int × Int × Int × Int × Bool × Int × Int × Int × Int × Bool ×
 Bool ⊕ Int × Int × Int × Int × Int × Int × Int × Int × Int × Bool × Int × Int × Int × Bool) → Option ρ) → Option ρ) (l_1 : ∀ {ρ : Type}, (Int × Int × Int × Int × Int × Int × Int × Int × Int) → ((Int × Int × Int × Int × Int × Int × Int × Int × Int × Int × Bool × Int × Bool ⊕ Int × Int × Int × Int × Int ×
 Int × Int × Int × Int × Int × Bool × Int × Int × Int × Int × Bool × Bool ⊕ Int × Int × Int × Int × Int × Int × Int × Int × Int × Bool × Int × Int × Int × Bool) → Option ρ) → Option ρ) (x0 : Int) (x1 : Int) (x2 : Int) (k : (Int × Int) → Option ρ) : Option ρ := bif x2 == 0 then none else bif decide (x2 ≤ x0) then
 none else bif x0 == 0 then bif !decide (x2 = 0) then bif !decide (x2 = 0) then k (IntKind.wrap IntKind.u64 (Int.tdiv x1 x2), Int.tmod x1 x2) else none else none else Option.bind (g_Al x2) fun (d : Int) => bif !decide (IntKind.wrap IntKind.u64 d < 0) then bif !decide (IntKind.wrap IntKind.u64 d < 0) then
 bif !decide (IntKind.wrap IntKind.u64 (64 - IntKind.wrap IntKind.u64 d) < 0) then bif !decide (IntKind.wrap IntKind.u64 d < 0) then bif !decide (Int.fdiv (IntKind.wrap IntKind.u64 (x2 * 2 ^ min (Int.toNat (IntKind.wrap IntKind.u64 d)) 64)) 4294967296 = 0) then l_0 (IntKind.wrap IntKind.u64 (x2 * 2 ^ min (Int.toNat (IntKind.wrap IntKind.u64 d)) 64),
 IntKind.wrap IntKind.u64 d, Int.fdiv (IntKind.wrap IntKind.u64 (x2 * 2 ^ min (Int.toNat (IntKind.wrap IntKind.u64 d)) 64)) 4294967296, IntKind.wrap IntKind.u64 (Int.ofNat (BitVec.toNat (BitVec.ofInt 64 (IntKind.wrap IntKind.u64 (x2 * 2 ^ min (Int.toNat (IntKind.wrap IntKind.u64 d)) 64)) &&& BitVec.ofInt 64 4294967295))),
 IntKind.wrap IntKind.u64 (Int.ofNat (BitVec.toNat (BitVec.ofInt 64 (IntKind.wrap IntKind.u64 (x0 * 2 ^ min (Int.toNat (IntKind.wrap IntKind.u64 d)) 64)) ||| BitVec.ofInt 64 (Int.fdiv x1 (2 ^ min (Int.toNat (IntKind.wrap IntKind.u64 (64 - IntKind.wrap IntKind.u64 d))) 64))))), Int.fdiv (IntKind.wrap IntKind.u64 (x1 * 2 ^ min (Int.toNat (IntKind.wrap IntKind.u64 d)) 64)) 4294967296,
 IntKind.wrap IntKind.u64 (Int.ofNat (BitVec.toNat (BitVec.ofInt 64 (IntKind.wrap IntKind.u64 (x1 * 2 ^ min (Int.toNat (IntKind.wrap IntKind.u64 d)) 64)) &&& BitVec.ofInt 64 4294967295))), IntKind.wrap IntKind.u64 (Int.tdiv (IntKind.wrap IntKind.u64 (Int.ofNat (BitVec.toNat (BitVec.ofInt 64 (IntKind.wrap IntKind.u64 (x0 * 2 ^ min (Int.toNat (IntKind.wrap IntKind.u64 d)) 64)) ||| BitVec.ofInt 64 (Int.fdiv x1 (2 ^ min (Int.toNat (IntKind.wrap IntKind.u64 (64 - IntKind.wrap IntKind.u64 d))) 64)))))) (Int.fdiv (IntKind.wrap IntKind.u64 (x2 * 2 ^ min (Int.toNat (IntKind.wrap IntKind.u64 d)) 64)) 4294967296)),
 IntKind.wrap IntKind.u64 (IntKind.wrap IntKind.u64 (Int.ofNat (BitVec.toNat (BitVec.ofInt 64 (IntKind.wrap IntKind.u64 (x0 * 2 ^ min (Int.toNat (IntKind.wrap IntKind.u64 d)) 64)) ||| BitVec.ofInt 64 (Int.fdiv x1 (2 ^ min (Int.toNat (IntKind.wrap IntKind.u64 (64 - IntKind.wrap IntKind.u64 d))) 64))))) - IntKind.wrap IntKind.u64 (IntKind.wrap IntKind.u64 (Int.tdiv (IntKind.wrap IntKind.u64 (Int.ofNat (BitVec.toNat (BitVec.ofInt 64 (IntKind.wrap IntKind.u64 (x0 * 2 ^ min (Int.toNat (IntKind.wrap IntKind.u64 d)) 64)) ||| BitVec.ofInt 64 (Int.fdiv x1 (2 ^ min (Int.toNat (IntKind.wrap IntKind.u64 (64 - IntKind.wrap IntKind.u64 d))) 64)))))) (Int.fdiv (IntKind.wrap IntKind.u64 (x2 * 2 ^ min (Int.toNat (IntKind.wrap IntKind.u64 d)) 64)) 4294967296)) * Int.fdiv (IntKind.wrap IntKind.u64 (x2 * 2 ^ min (Int.toNat (IntKind.wrap IntKind.u64 d)) 64)) 4294967296))) (Sum.elim (fun (d : Int ×
 Int × Int × Int × Int × Int × Int × Int × Int × Int × Bool × Int × Bool) => bif !decide (d.2.2.1 = 0) then l_1 (d.1, d.2.1, d.2.2.1, d.2.2.2.1, d.c4.2.2.1, d.c4.2.2.2.1, IntKind.wrap IntKind.u64 (IntKind.wrap IntKind.u64 (IntKind.wrap IntKind.u64 (IntKind.wrap IntKind.u64 (d.c4.1 * 4294967296) + d.c4.2.1) - IntKind.wrap IntKind.u64 (d.c4.2.2.2.1 * d.1)) - IntKind.wrap IntKind.u64 (IntKind.wrap IntKind.u64 (Int.tdiv (IntKind.wrap IntKind.u64 (IntKind.wrap IntKind.u64 (IntKind.wrap IntKind.u64 (d.c4.1 * 4294967296) + d.c4.2.1) - IntKind.wrap IntKind.u64 (d.c4.2.2.2.1 * d.1))) d.2.2.1) * d.2.2.1)),
 IntKind.wrap IntKind.u64 (IntKind.wrap IntKind.u64 (IntKind.wrap IntKind.u64 (d.c4.1 * 4294967296) + d.c4.2.1) - IntKind.wrap IntKind.u64 (d.c4.2.2.2.1 * d.1)), IntKind.wrap IntKind.u64 (Int.tdiv (IntKind.wrap IntKind.u64 (IntKind.wrap IntKind.u64 (IntKind.wrap IntKind.u64 (d.c4.1 * 4294967296) + d.c4.2.1) - IntKind.wrap IntKind.u64 (d.c4.2.2.2.1 * d.1))) d.2.2.1)) (Sum.elim (fun (d : Int ×
 Int × Int × Int × Int × Int × Int × Int × Int × Int × Bool × Int × Bool) => bif !decide (d.2.1 < 0) then k (IntKind.wrap IntKind.u64 (IntKind.wrap IntKind.u64 (d.c4.2.1 * 4294967296) + d.c8.1), Int.fdiv (IntKind.wrap IntKind.u64 (IntKind.wrap IntKind.u64 (IntKind.wrap IntKind.u64 (d.c4.2.2.2.1 * 4294967296) + d.c4.1) - IntKind.wrap IntKind.u64 (d.c8.1 * d.1))) (2 ^ min (Int.toNat d.2.1) 64)) else
 none) (Sum.elim (fun (d : Int × Int × Int × Int × Int × Int × Int × Int × Int × Int × Bool × Int × Int × Int × Int × Bool × Bool) => bif !decide (d.2.1 < 0) then k (IntKind.wrap IntKind.u64 (IntKind.wrap IntKind.u64 (d.c4.2.1 * 4294967296) + d.c8.1), Int.fdiv (IntKind.wrap IntKind.u64 (IntKind.wrap IntKind.u64 (IntKind.wrap IntKind.u64 (d.c4.2.2.2.1 * 4294967296) + d.c4.1) - IntKind.wrap IntKind.u64 (d.c8.1 * d.1))) (2 ^ min (Int.toNat d.2.1) 64)) else
 none) fun (d : Int × Int × Int × Int × Int × Int × Int × Int × Int × Bool × Int × Int × Int × Bool) => bif !decide (d.2.1 < 0) then k (IntKind.wrap IntKind.u64 (IntKind.wrap IntKind.u64 (d.c4.2.1 * 4294967296) + d.c8.1), Int.fdiv (IntKind.wrap IntKind.u64 (IntKind.wrap IntKind.u64 (IntKind.wrap IntKind.u64 (d.c4.2.2.2.1 * 4294967296) + d.c4.1) - IntKind.wrap IntKind.u64 (d.c8.1 * d.1))) (2 ^ min (Int.toNat d.2.1) 64)) else
 none)) else none) (Sum.elim (fun (d : Int × Int × Int × Int × Int × Int × Int × Int × Int × Int × Bool × Int × Int × Int × Int × Bool × Bool) => bif !decide (d.2.2.1 = 0) then l_1 (d.1, d.2.1, d.2.2.1, d.2.2.2.1, d.c4.2.2.1, d.c4.2.2.2.1, IntKind.wrap IntKind.u64 (IntKind.wrap IntKind.u64 (IntKind.wrap IntKind.u64 (IntKind.wrap IntKind.u64 (d.c4.1 * 4294967296) + d.c4.2.1) - IntKind.wrap IntKind.u64 (d.c4.2.2.2.1 * d.1)) - IntKind.wrap IntKind.u64 (IntKind.wrap IntKind.u64 (Int.tdiv (IntKind.wrap IntKind.u64 (IntKind.wrap IntKind.u64 (IntKind.wrap IntKind.u64 (d.c4.1 * 4294967296) + d.c4.2.1) - IntKind.wrap IntKind.u64 (d.c4.2.2.2.1 * d.1))) d.2.2.1) * d.2.2.1)),
 IntKind.wrap IntKind.u64 (IntKind.wrap IntKind.u64 (IntKind.wrap IntKind.u64 (d.c4.1 * 4294967296) + d.c4.2.1) - IntKind.wrap IntKind.u64 (d.c4.2.2.2.1 * d.1)), IntKind.wrap IntKind.u64 (Int.tdiv (IntKind.wrap IntKind.u64 (IntKind.wrap IntKind.u64 (IntKind.wrap IntKind.u64 (d.c4.1 * 4294967296) + d.c4.2.1) - IntKind.wrap IntKind.u64 (d.c4.2.2.2.1 * d.1))) d.2.2.1)) (Sum.elim (fun (d : Int ×
 Int × Int × Int × Int × Int × Int × Int × Int × Int × Bool × Int × Bool) => bif !decide (d.2.1 < 0) then k (IntKind.wrap IntKind.u64 (IntKind.wrap IntKind.u64 (d.c4.2.1 * 4294967296) + d.c8.1), Int.fdiv (IntKind.wrap IntKind.u64 (IntKind.wrap IntKind.u64 (IntKind.wrap IntKind.u64 (d.c4.2.2.2.1 * 4294967296) + d.c4.1) - IntKind.wrap IntKind.u64 (d.c8.1 * d.1))) (2 ^ min (Int.toNat d.2.1) 64)) else
 none) (Sum.elim (fun (d : Int × Int × Int × Int × Int × Int × Int × Int × Int × Int × Bool × Int × Int × Int × Int × Bool × Bool) => bif !decide (d.2.1 < 0) then k (IntKind.wrap IntKind.u64 (IntKind.wrap IntKind.u64 (d.c4.2.1 * 4294967296) + d.c8.1), Int.fdiv (IntKind.wrap IntKind.u64 (IntKind.wrap IntKind.u64 (IntKind.wrap IntKind.u64 (d.c4.2.2.2.1 * 4294967296) + d.c4.1) - IntKind.wrap IntKind.u64 (d.c8.1 * d.1))) (2 ^ min (Int.toNat d.2.1) 64)) else
 none) fun (d : Int × Int × Int × Int × Int × Int × Int × Int × Int × Bool × Int × Int × Int × Bool) => bif !decide (d.2.1 < 0) then k (IntKind.wrap IntKind.u64 (IntKind.wrap IntKind.u64 (d.c4.2.1 * 4294967296) + d.c8.1), Int.fdiv (IntKind.wrap IntKind.u64 (IntKind.wrap IntKind.u64 (IntKind.wrap IntKind.u64 (d.c4.2.2.2.1 * 4294967296) + d.c4.1) - IntKind.wrap IntKind.u64 (d.c8.1 * d.1))) (2 ^ min (Int.toNat d.2.1) 64)) else
 none)) else none) fun (d : Int × Int × Int × Int × Int × Int × Int × Int × Int × Bool × Int × Int × Int × Bool) => bif !decide (d.2.2.1 = 0) then l_1 (d.1, d.2.1, d.2.2.1, d.2.2.2.1, d.c4.2.2.1, d.c4.2.2.2.1, IntKind.wrap IntKind.u64 (IntKind.wrap IntKind.u64 (IntKind.wrap IntKind.u64 (IntKind.wrap IntKind.u64 (d.c4.1 * 4294967296) + d.c4.2.1) - IntKind.wrap IntKind.u64 (d.c4.2.2.2.1 * d.1)) - IntKind.wrap IntKind.u64 (IntKind.wrap IntKind.u64 (Int.tdiv (IntKind.wrap IntKind.u64 (IntKind.wrap IntKind.u64 (IntKind.wrap IntKind.u64 (d.c4.1 * 4294967296) + d.c4.2.1) - IntKind.wrap IntKind.u64 (d.c4.2.2.2.1 * d.1))) d.2.2.1) * d.2.2.1)),
 IntKind.wrap IntKind.u64 (IntKind.wrap IntKind.u64 (IntKind.wrap IntKind.u64 (d.c4.1 * 4294967296) + d.c4.2.1) - IntKind.wrap IntKind.u64 (d.c4.2.2.2.1 * d.1)), IntKind.wrap IntKind.u64 (Int.tdiv (IntKind.wrap IntKind.u64 (IntKind.wrap IntKind.u64 (IntKind.wrap IntKind.u64 (d.c4.1 * 4294967296) + d.c4.2.1) - IntKind.wrap IntKind.u64 (d.c4.2.2.2.1 * d.1))) d.2.2.1)) (Sum.elim (fun (d : Int ×
 Int × Int × Int × Int × Int × Int × Int × Int × Int × Bool × Int × Bool) => bif !decide (d.2.1 < 0) then k (IntKind.wrap IntKind.u64 (IntKind.wrap IntKind.u64 (d.c4.2.1 * 4294967296) + d.c8.1), Int.fdiv (IntKind.wrap IntKind.u64 (IntKind.wrap IntKind.u64 (IntKind.wrap IntKind.u64 (d.c4.2.2.2.1 * 4294967296) + d.c4.1) - IntKind.wrap IntKind.u64 (d.c8.1 * d.1))) (2 ^ min (Int.toNat d.2.1) 64)) else
 none) (Sum.elim (fun (d : Int × Int × Int × Int × Int × Int × Int × Int × Int × Int × Bool × Int × Int × Int × Int × Bool × Bool) => bif !decide (d.2.1 < 0) then k (IntKind.wrap IntKind.u64 (IntKind.wrap IntKind.u64 (d.c4.2.1 * 4294967296) + d.c8.1), Int.fdiv (IntKind.wrap IntKind.u64 (IntKind.wrap IntKind.u64 (IntKind.wrap IntKind.u64 (d.c4.2.2.2.1 * 4294967296) + d.c4.1) - IntKind.wrap IntKind.u64 (d.c8.1 * d.1))) (2 ^ min (Int.toNat d.2.1) 64)) else
 none) fun (d : Int × Int × Int × Int × Int × Int × Int × Int × Int × Bool × Int × Int × Int × Bool) => bif !decide (d.2.1 < 0) then k (IntKind.wrap IntKind.u64 (IntKind.wrap IntKind.u64 (d.c4.2.1 * 4294967296) + d.c8.1), Int.fdiv (IntKind.wrap IntKind.u64 (IntKind.wrap IntKind.u64 (IntKind.wrap IntKind.u64 (d.c4.2.2.2.1 * 4294967296) + d.c4.1) - IntKind.wrap IntKind.u64 (d.c8.1 * d.1))) (2 ^ min (Int.toNat d.2.1) 64)) else
 none)) else none)) else none else none else none else none else none
def f_AC (x0 : Int) (x1 : Int) (x2 : Int) : Option (Int × Int) := K_AC f_Al (@L_AC_0) (@L_AC_1) x0 x1 x2 some
section
open Go.Ab.Rdr
def QA_AC := ((pair (cons (ar (rc (cf (fi .u64 hole)))) (cons (ar (rc (cf (fi .u64 hole)))) (cons (ar (rc (cf (fi .u64 hole)))) nil))) nil) : Rdr (List AV × List Blk) _)
end
def F_AC (f : (Int) → (Int) → (Int) → Option (Int × Int)) : Sem1 := fun args h => match (QA_AC).rd (args, h) with
  | some b => .opt (f b.1.1 b.1.2.1 b.1.2.2.1) fun (d : Int × Int) => .leaf (Res.mk (AV.tup [RV.c (CV.f (FV.i IntKind.u64 d.1)), RV.c (CV.f (FV.i IntKind.u64 d.2))]) [] [])
  | none => .fail
theorem d_AC (g_Al : t2C2) (l_0 : ∀ {ρ : Type}, (Int × Int × Int × Int × Int × Int × Int × Int × Int) → ((Int × Int × Int × Int × Int × Int × Int × Int × Int × Int × Bool × Int × Bool ⊕ Int × Int × Int × Int × Int × Int × Int × Int × Int × Int × Bool × Int × Int × Int × Int × Bool × Bool ⊕ Int ×
 Int × Int × Int × Int × Int × Int × Int × Int × Bool × Int × Int × Int × Bool) → Option ρ) → Option ρ) (l_1 : ∀ {ρ : Type}, (Int × Int × Int × Int × Int × Int × Int × Int × Int) → ((Int × Int × Int × Int × Int × Int × Int × Int × Int × Int × Bool × Int × Bool ⊕ Int × Int × Int × Int × Int × Int × Int ×
 Int × Int × Int × Bool × Int × Int × Int × Int × Bool × Bool ⊕ Int × Int × Int × Int × Int × Int × Int × Int × Int × Bool × Int × Int × Int × Bool) → Option ρ) → Option ρ) (x0 : Int) (x1 : Int) (x2 : Int) : den Try.prog (envOf [(89, F_Al g_Al)]) ⟨[⟨17, [0, 1, 3, 4, 5, 6, 7, 12, 17, 18, 19, 20, 21, 22,
 23, 24, 25, 26, 27, 28, 29, 30, 31, 32, 33, 34, 35, 36, 37, 38, 39, 40, 41, 42, 43, 44, 45, 46, 47, 48, 49, 50, 51, 52, 53, 54, 55, 56, 57, 58, 59, 60, 61, 62, 63, 64, 65, 66, 67, 68, 69, 78, 79, 80, 81, 82, 83, 84, 85, 86, 87, 88, 89, 90, 91, 92, 93, 94, 95, 96, 97, 98, 99, 100, 101, 102, 103, 104,
 113, 114, 115, 116, 117, 118, 119, 120, 121, 122, 123, 124, 125, 126, 127, 128, 129, 130, 131, 132, 133, 134, 70, 71, 72, 73, 74, 75, 76, 77], []⟩, ⟨24, [0, 1, 3, 4, 5, 6, 7, 11, 12, 13, 19, 20, 21, 22, 23, 24, 25, 26, 27, 28, 29, 30, 31, 32, 33, 34, 35, 36, 37, 38, 39, 40, 41, 42, 43, 44, 45, 46, 47,
 48, 49, 50, 51, 52, 53, 54, 55, 56, 57, 58, 59, 60, 61, 62, 63, 64, 65, 66, 67, 68, 69, 70, 71, 72, 73, 74, 75, 76, 77, 78, 79, 80, 81, 82, 83, 84, 85, 86, 87, 88, 89, 90, 91, 92, 93, 94, 95, 96, 97, 98, 99, 100, 101, 102, 103, 104, 113, 114, 115, 116, 117, 118, 119, 120, 121, 122, 123, 124, 125, 126,
 127, 128, 129, 130, 131, 132, 133, 134, 105, 106, 107, 108, 109, 110, 111, 112], []⟩], [⟨17, 0, @R_AC_0 (@l_0)⟩, ⟨24, 0, @R_AC_1 (@l_1)⟩], [], [], none⟩ 200 54 [rU x0, rU x1, rU x2] [] = K_AC g_Al (@l_0) (@l_1) x0 x1 x2 (fun (d : Int × Int) => some (Res.mk (AV.tup [RV.c (CV.f (FV.i IntKind.u64 d.1)),
 RV.c (CV.f (FV.i IntKind.u64 d.2))]) [] [])) := by kernel_rfl
theorem m_AC {ρ σ : Type} (q : ρ → Option σ) (g_Al : t2C2) (l_0 : ∀ {ρ : Type}, (Int × Int × Int × Int × Int × Int × Int × Int × Int) → ((Int × Int × Int × Int × Int × Int × Int × Int × Int × Int × Bool × Int × Bool ⊕ Int × Int × Int × Int × Int × Int × Int × Int × Int × Int × Bool × Int ×
 Int × Int × Int × Bool × Bool ⊕ Int × Int × Int × Int × Int × Int × Int × Int × Int × Bool × Int × Int × Int × Bool) → Option ρ) → Option ρ) (l_1 : ∀ {ρ : Type}, (Int × Int × Int × Int × Int × Int × Int × Int × Int) → ((Int × Int × Int × Int × Int × Int × Int × Int × Int × Int × Bool × Int × Bool ⊕ Int ×
 Int × Int × Int × Int × Int × Int × Int × Int × Int × Bool × Int × Int × Int × Int × Bool × Bool ⊕ Int × Int × Int × Int × Int × Int × Int × Int × Int × Bool × Int × Int × Int × Bool) → Option ρ) → Option ρ) (hl_0 : ∀ {ρ σ : Type} (q : ρ → Option σ) (d : Int × Int × Int × Int × Int × Int × Int × Int ×
 Int) (k : (Int × Int × Int × Int × Int × Int × Int × Int × Int × Int × Bool × Int × Bool ⊕ Int × Int × Int × Int × Int × Int × Int × Int × Int × Int × Bool × Int × Int × Int × Int × Bool × Bool ⊕ Int × Int × Int × Int × Int × Int × Int × Int × Int × Bool × Int × Int × Int × Bool) → Option ρ), (l_0 d k).bind q = l_0 d fun x => (k x).bind q) (hl_1 : ∀ {ρ σ : Type} (q : ρ →
 Option σ) (d : Int × Int × Int × Int × Int × Int × Int × Int × Int) (k : (Int × Int × Int × Int × Int × Int × Int × Int × Int × Int × Bool × Int × Bool ⊕ Int × Int × Int × Int × Int × Int × Int × Int × Int × Int × Bool × Int × Int × Int × Int × Bool × Bool ⊕ Int × Int × Int × Int × Int × Int × Int ×
 Int × Int × Bool × Int × Int × Int × Bool) → Option ρ), (l_1 d k).bind q = l_1 d fun x => (k x).bind q) (x0 : Int) (x1 : Int) (x2 : Int) (k : (Int × Int) → Option ρ) : (K_AC g_Al (@l_0) (@l_1) x0 x1 x2 k).bind q = K_AC g_Al (@l_0) (@l_1) x0 x1 x2 (fun d => (k d).bind q) := by
  simp only [K_AC, bnd_cond, bnd_bind, bnd_none, bnd_sum, hl_0, hl_1]
theorem qa_AC : ∀ b, (QA_AC).em b = ([rU b.1.1, rU b.1.2.1, rU b.1.2.2.1], []) := fun b => by kernel_rfl
theorem e_AC {f : (Int) → (Int) → (Int) → Option (Int × Int)} {args : List AV} {h : List Blk} {r : Res} (hr : (F_AC f args h).eval = some r) : ∃ x0 x1 x2, args = [rU x0, rU x1, rU x2] ∧ h = [] ∧ (f x0 x1 x2).bind (fun (d : Int × Int) => some (Res.mk (AV.tup [RV.c (CV.f (FV.i IntKind.u64 d.1)), RV.c (CV.f (FV.i IntKind.u64 d.2))]) [] [])) = some r := by
  unfold F_AC at hr
  split at hr
  · rename_i b hb
    have e := ((QA_AC).ok _ _ hb).trans (qa_AC b)
    rw [opt_eval2] at hr
    exact ⟨b.1.1, b.1.2.1, b.1.2.2.1, (Prod.mk.inj e).1, (Prod.mk.inj e).2, hr⟩
  · cases hr
theorem n_AC {σ : Type} (q : (Int × Int) → Option σ) (x0 : Int) (x1 : Int) (x2 : Int) : (f_AC x0 x1 x2).bind q = K_AC f_Al (@L_AC_0) (@L_AC_1) x0 x1 x2 q := by
  unfold f_AC
  exact m_AC q f_Al (@L_AC_0) (@L_AC_1) (fun q d k => mL_AC_0 q d k) (fun q d k => mL_AC_1 q d k) x0 x1 x2 some
theorem s_AC [Amb] : Sound Try.prog 54 (F_AC f_AC) := (inl_sums (l := [(89, F_Al f_Al)]) (.cons s_Al (.nil _)) mixed (hs := ⟨[⟨17, [0, 1, 3, 4, 5, 6, 7, 12, 17, 18, 19, 20, 21, 22, 23, 24, 25, 26, 27, 28, 29, 30, 31, 32, 33, 34, 35, 36, 37, 38, 39, 40, 41, 42, 43, 44, 45, 46, 47, 48, 49, 50, 51, 52,
 53, 54, 55, 56, 57, 58, 59, 60, 61, 62, 63, 64, 65, 66, 67, 68, 69, 78, 79, 80, 81, 82, 83, 84, 85, 86, 87, 88, 89, 90, 91, 92, 93, 94, 95, 96, 97, 98, 99, 100, 101, 102, 103, 104, 113, 114, 115, 116, 117, 118, 119, 120, 121, 122, 123, 124, 125, 126, 127, 128, 129, 130, 131, 132, 133, 134, 70, 71, 72,
 73, 74, 75, 76, 77], []⟩, ⟨24, [0, 1, 3, 4, 5, 6, 7, 11, 12, 13, 19, 20, 21, 22, 23, 24, 25, 26, 27, 28, 29, 30, 31, 32, 33, 34, 35, 36, 37, 38, 39, 40, 41, 42, 43, 44, 45, 46, 47, 48, 49, 50, 51, 52, 53, 54, 55, 56, 57, 58, 59, 60, 61, 62, 63, 64, 65, 66, 67, 68, 69, 70, 71, 72, 73, 74, 75, 76, 77,
 78, 79, 80, 81, 82, 83, 84, 85, 86, 87, 88, 89, 90, 91, 92, 93, 94, 95, 96, 97, 98, 99, 100, 101, 102, 103, 104, 113, 114, 115, 116, 117, 118, 119, 120, 121, 122, 123, 124, 125, 126, 127, 128, 129, 130, 131, 132, 133, 134, 105, 106, 107, 108, 109, 110, 111, 112], []⟩], [⟨17, 0, @R_AC_0 (@L_AC_0)⟩, ⟨24,
 0, @R_AC_1 (@L_AC_1)⟩], [], [], none⟩) (lf := 200) (Sums.by (l := [loopIn Try.prog 54 17, loopIn Try.prog 54 24]) (lj := []) (by kernel_rfl) ⟨so_AC_0, ⟨so_AC_1, trivial⟩⟩ (by kernel_rfl) trivial) (by kernel_rfl)).by (F := F_AC f_AC) fun args b r hr => by
  obtain ⟨x0, x1, x2, rfl, rfl, hr1⟩ := e_AC hr
  exact inl_eval ((d_AC f_Al (@L_AC_0) (@L_AC_1) x0 x1 x2).trans ((n_AC (fun (d : Int × Int) => some (Res.mk (AV.tup [RV.c (CV.f (FV.i IntKind.u64 d.1)), RV.c (CV.f (FV.i IntKind.u64 d.2))]) [] [])) x0 x1 x2).symm.trans hr1))

def K_BS {ρ : Type} (g_Ay : t3C2) (g_Ai : t2C2) (g_AC : t4C2) (g_AW : t5C2) (g_AR : t6C2) (x0 : Int) (x1 : Int) (x2 : Int) (k : (Int × Bool) → Option ρ) : Option ρ := bif x2 == 0 then
 k (0, false) else Option.bind (g_Ay x0 x1) fun (d : Int × Int × Bool) => Option.bind (g_Ai x2) fun (d_1 : Int) => bif !decide (d_1 = 0) then bif !decide (d_1 = 0) then Option.bind (g_AC (Int.tmod d.1 d_1) d.2.1 d_1) fun (d_2 : Int × Int) => bif decide (d_2.2 ≥ IntKind.wrap IntKind.u64 (d_1 - d_2.2)) then
 Option.bind (g_AW (IntKind.wrap IntKind.u64 (Int.tdiv d.1 d_1)) d_2.1 0 1) fun (d_3 : Int × Int) => Option.bind (g_AR d_3.1 d_3.2 !d.2.2 == decide (x2 < 0)) fun (d : Int × Bool) => k (d.1, d.2) else Option.bind (g_AR (IntKind.wrap IntKind.u64 (Int.tdiv d.1 d_1)) d_2.1 !d.2.2 == decide (x2 < 0)) fun (d : Int ×
 Bool) => k (d.1, d.2) else none else none
def f_BS (x0 : Int) (x1 : Int) (x2 : Int) : Option (Int × Bool) := K_BS f_Ay f_Ai f_AC f_AW f_AR  x0 x1 x2 some
section
open Go.Ab.Rdr
def QA_BS := ((pair (cons (ar (ra (cons (gc (cf (fi .i64 hole))) (cons (gc (cf (fi .u64 hole))) nil)))) (cons (ar (rc (cf (fi .i64 hole)))) nil)) nil) : Rdr (List AV × List Blk) _)
end
def F_BS (f : (Int) → (Int) → (Int) → Option (Int × Bool)) : Sem1 := fun args h => match (QA_BS).rd (args, h) with
  | some b => .opt (f b.1.1.1 b.1.1.2.1 b.1.2.1) fun (d : Int × Bool) => .leaf (Res.mk (AV.tup [RV.c (fI d.1), RV.c (CV.f (FV.b d.2))]) [] [])
  | none => .fail
theorem d_BS (g_Ay : t3C2) (g_Ai : t2C2) (g_AC : t4C2) (g_AW : t5C2) (g_AR : t6C2) (x0 : Int) (x1 : Int) (x2 : Int) : den Try.prog (envOf [(52, F_Ay g_Ay),
 (53, F_Ai g_Ai), (54, F_AC g_AC), (47, F_AW g_AW), (51, F_AR g_AR)]) ⟨[], [], [], [], none⟩ 200 18 [.r (.agg [.c (.f (.i .i64 x0)), .c (.f (.i .u64 x1))]), rI x2] [] = K_BS g_Ay g_Ai g_AC g_AW g_AR x0 x1 x2 (fun (d : Int × Bool) => some (Res.mk (AV.tup [RV.c (fI d.1),
 RV.c (CV.f (FV.b d.2))]) [] [])) := by kernel_rfl
theorem m_BS {ρ σ : Type} (q : ρ → Option σ) (g_Ay : t3C2) (g_Ai : t2C2) (g_AC : t4C2) (g_AW : t5C2) (g_AR : t6C2)   (x0 : Int) (x1 : Int) (x2 : Int) (k : (Int × Bool) → Option ρ) : (K_BS g_Ay g_Ai g_AC g_AW g_AR  x0 x1 x2 k).bind q = K_BS g_Ay g_Ai g_AC g_AW g_AR  x0 x1 x2 (fun d => (k d).bind q) := by
  simp only [K_BS, bnd_cond, bnd_bind, bnd_none, bnd_sum]
theorem qa_BS : ∀ b, (QA_BS).em b = ([.r (.agg [.c (.f (.i .i64 b.1.1.1)), .c (.f (.i .u64 b.1.1.2.1))]), rI b.1.2.1], []) := fun b => by kernel_rfl
theorem e_BS {f : (Int) → (Int) → (Int) → Option (Int × Bool)} {args : List AV} {h : List Blk} {r : Res} (hr : (F_BS f args h).eval = some r) : ∃ x0 x1 x2, args = [.r (.agg [.c (.f (.i .i64 x0)), .c (.f (.i .u64 x1))]), rI x2] ∧ h = [] ∧ (f x0 x1 x2).bind (fun (d : Int × Bool) => some (Res.mk (AV.tup [RV.c (fI d.1), RV.c (CV.f (FV.b d.2))]) [] [])) = some r := by
  unfold F_BS at hr
  split at hr
  · rename_i b hb
    have e := ((QA_BS).ok _ _ hb).trans (qa_BS b)
    rw [opt_eval2] at hr
    exact ⟨b.1.1.1, b.1.1.2.1, b.1.2.1, (Prod.mk.inj e).1, (Prod.mk.inj e).2, hr⟩
  · cases hr
theorem n_BS {σ : Type} (q : (Int × Bool) → Option σ) (x0 : Int) (x1 : Int) (x2 : Int) : (f_BS x0 x1 x2).bind q = K_BS f_Ay f_Ai f_AC f_AW f_AR  x0 x1 x2 q := by
  unfold f_BS
  exact m_BS q f_Ay f_Ai f_AC f_AW f_AR   x0 x1 x2 some
theorem s_BS [Amb] : Sound Try.prog 18 (F_BS f_BS) := (inl_sound (l := [(52, F_Ay f_Ay), (53, F_Ai f_Ai), (54, F_AC f_AC), (47, F_AW f_AW), (51, F_AR f_AR)]) (.cons s_Ay (.cons s_Ai (.cons s_AC (.cons s_AW (.cons s_AR (.nil _)))))) mixed [] [] 200 (by kernel_rfl)).by (F := F_BS f_BS) fun args b r hr => by
  obtain ⟨x0, x1, x2, rfl, rfl, hr1⟩ := e_BS hr
  exact inl_eval ((d_BS f_Ay f_Ai f_AC f_AW f_AR  x0 x1 x2).trans ((n_BS (fun (d : Int × Bool) => some (Res.mk (AV.tup [RV.c (fI d.1), RV.c (CV.f (FV.b d.2))]) [] [])) x0 x1 x2).symm.trans hr1))

end Go.Proofs.Ytcalippagaaikaa
set_option maxRecDepth 100000
set_option maxHeartbeats 4000000
set_option linter.unusedVariables false
namespace Go.Proofs.Ytcalippagaaikaa
open Go.Ab
abbrev u0E1 : List Nat := [2, 3, 4, 5, 6, 8, 9, 10, 11, 12, 13, 17, 18, 19, 20, 21, 22, 23, 24, 25, 26, 27, 28, 29]
abbrev t1E1 := Bool → Option Int
abbrev t2E1 := Int → Int → Int → Option (Int × Bool)
abbrev t3E1 := Int → Bool → Bool → Bool → Option (Int × Bool)
abbrev t4E1 := Int → Bool → Option (Int × Bool)
abbrev t5E1 := Int → Int → Option (Int × Int)
abbrev t6E1 := Int → Int → Int → Bool → Option (Int × Bool)
abbrev t7E1 := Int → Int → Option (Int × Int × Bool)
abbrev t8E1 := Int → Int → Option (Int × Bool)
abbrev t9E1 := Int → Int → Bool → Option (Int × Bool)
abbrev t10E1 := Nat → Bool → NI → Bool → Option (Int × Bool)
abbrev t11E1 := Int → Option Int
abbrev t12E1 := Int → Nat → Bool → NI → Bool → Option (Int × Bool)
abbrev t13E1 := Int → Int → Int → Option Bool
def K_BJ {ρ : Type} (x0 : Int) (k : (Int) → Option ρ) : Option ρ := bif decide (x0 ≥ 1152921504606846976) then k 1152921504606846976 else bif decide (x0 ≤ -1152921504606846976) then k 1152921504606846976 else bif decide (x0 < 0) then k (IntKind.wrap IntKind.i64 (0 - x0)) else k x0
def f_BJ (x0 : Int) : Option (Int) := K_BJ   x0 some
section
open Go.Ab.Rdr
def QA_BJ := ((pair (cons (ar (rc (cf (fi .i64 hole)))) nil) nil) : Rdr (List AV × List Blk) _)
end
def F_BJ (f : (Int) → Option (Int)) : Sem1 := fun args h => match (QA_BJ).rd (args, h) with
  | some b => .opt (f b.1.1) fun (d : Int) => .leaf (Res.mk (rI d) [] [])
  | none => .fail
theorem d_BJ (x0 : Int) : den Try.prog (envOf []) ⟨[], [], [], [], none⟩ 200 95 [rI x0] [] = K_BJ x0 (fun (d : Int) => some (Res.mk (rI d) [] [])) := by kernel_rfl
theorem m_BJ {ρ σ : Type} (q : ρ → Option σ)    (x0 : Int) (k : (Int) → Option ρ) : (K_BJ   x0 k).bind q = K_BJ   x0 (fun d => (k d).bind q) := by
  simp only [K_BJ, bnd_cond, bnd_bind, bnd_none, bnd_sum]
theorem qa_BJ : ∀ b, (QA_BJ).em b = ([rI b.1.1], []) := fun b => by kernel_rfl
theorem e_BJ {f : (Int) → Option (Int)} {args : List AV} {h : List Blk} {r : Res} (hr : (F_BJ f args h).eval = some r) : ∃ x0, args = [rI x0] ∧ h = [] ∧ (f x0).bind (fun (d : Int) => some (Res.mk (rI d) [] [])) = some r := by
  unfold F_BJ at hr
  split at hr
  · rename_i b hb
    have e := ((QA_BJ).ok _ _ hb).trans (qa_BJ b)
    rw [opt_eval2] at hr
    exact ⟨b.1.1, (Prod.mk.inj e).1, (Prod.mk.inj e).2, hr⟩
  · cases hr
theorem n_BJ {σ : Type} (q : (Int) → Option σ) (x0 : Int) : (f_BJ x0).bind q = K_BJ   x0 q := by
  unfold f_BJ
  exact m_BJ q    x0 some
theorem s_BJ [Amb] : Sound Try.prog 95 (F_BJ f_BJ) := (inl_sound (l := []) (.nil _) mixed [] [] 200 (by kernel_rfl)).by (F := F_BJ f_BJ) fun args b r hr => by
  obtain ⟨x0, rfl, rfl, hr1⟩ := e_BJ hr
  exact inl_eval ((d_BJ   x0).trans ((n_BJ (fun (d : Int) => some (Res.mk (rI d) [] [])) x0).symm.trans hr1))

def K_BB {ρ : Type} (g_BD : t1E1) (g_BS : t2E1) (g_Ae : t3E1) (x0 : Int) (x1 : Int) (x2 : Int) (x3 : Bool) (k : (Int × Bool) → Option ρ) : Option ρ := bif x2 == 0 then bif x0 == 0 && (x1 == 0 && true) then k (0, true) else
 Option.bind (g_BD (decide (x0 < 0))) fun (d : Int) => k (d, true) else Option.bind (g_BS x0 x1 x2) fun (d : Int × Bool) => Option.bind (g_Ae d.1 d.2 (!decide (x0 < 0) == decide (x2 < 0)) x3) fun (d : Int × Bool) => k (d.1, d.2)
def f_BB (x0 : Int) (x1 : Int) (x2 : Int) (x3 : Bool) : Option (Int × Bool) := K_BB f_BD f_BS f_Ae  x0 x1 x2 x3 some
section
open Go.Ab.Rdr
def QA_BB := ((pair (cons (ar (rc (cptr (nat 0) (ok' (nat 0)) (nat 1)))) (cons (ar (ra (cons (gc (cf (fi .i64 hole))) (cons (gc (cf (fi .u64 hole))) nil)))) (cons (ar (rc (cf (fi .i64 hole)))) nil))) (cons (cons (gc (cf (fb hole))) nil) nil)) : Rdr (List AV × List Blk) _)
end
def F_BB (f : (Int) → (Int) → (Int) → (Bool) → Option (Int × Bool)) : Sem1 := fun args h => match (QA_BB).rd (args, h) with
  | some b => .opt (f b.1.2.1.1 b.1.2.1.2.1 b.1.2.2.1 b.2.1.1) fun (d : Int × Bool) => .leaf (Res.mk (rI d.1) [Ch.set [sB d.2]] [])
  | none => .fail
theorem d_BB (g_BD : t1E1) (g_BS : t2E1) (g_Ae : t3E1) (x0 : Int) (x1 : Int) (x2 : Int) (x3 : Bool) : den Try.prog (envOf [(113, F_BD g_BD), (18, F_BS g_BS), (112, F_Ae g_Ae)]) ⟨[], [], [], [], none⟩ 200 93 [.r (.c (.ptr 0 (.k 0) 1)),
 .r (.agg [.c (.f (.i .i64 x0)), .c (.f (.i .u64 x1))]), rI x2] [[.c (.f (.b x3))]] = K_BB g_BD g_BS g_Ae x0 x1 x2 x3 (fun (d : Int × Bool) => some (Res.mk (rI d.1) [Ch.set [sB d.2]] [])) := by kernel_rfl
theorem m_BB {ρ σ : Type} (q : ρ → Option σ) (g_BD : t1E1) (g_BS : t2E1) (g_Ae : t3E1)   (x0 : Int) (x1 : Int) (x2 : Int) (x3 : Bool) (k : (Int × Bool) → Option ρ) : (K_BB g_BD g_BS g_Ae  x0 x1 x2 x3 k).bind q = K_BB g_BD g_BS g_Ae  x0 x1 x2 x3 (fun d => (k d).bind q) := by
  simp only [K_BB, bnd_cond, bnd_bind, bnd_none, bnd_sum]
theorem qa_BB : ∀ b, (QA_BB).em b = ([.r (.c (.ptr 0 (.k 0) 1)), .r (.agg [.c (.f (.i .i64 b.1.2.1.1)), .c (.f (.i .u64 b.1.2.1.2.1))]), rI b.1.2.2.1], [[.c (.f (.b b.2.1.1))]]) := fun b => by kernel_rfl
theorem e_BB {f : (Int) → (Int) → (Int) → (Bool) → Option (Int × Bool)} {args : List AV} {h : List Blk} {r : Res} (hr : (F_BB f args h).eval = some r) : ∃ x0 x1 x2 x3, args = [.r (.c (.ptr 0 (.k 0) 1)), .r (.agg [.c (.f (.i .i64 x0)), .c (.f (.i .u64 x1))]), rI x2] ∧ h = [[.c (.f (.b x3))]] ∧ (f x0 x1 x2 x3).bind (fun (d : Int × Bool) => some (Res.mk (rI d.1) [Ch.set [sB d.2]] [])) = some r := by
  unfold F_BB at hr
  split at hr
  · rename_i b hb
    have e := ((QA_BB).ok _ _ hb).trans (qa_BB b)
    rw [opt_eval2] at hr
    exact ⟨b.1.2.1.1, b.1.2.1.2.1, b.1.2.2.1, b.2.1.1, (Prod.mk.inj e).1, (Prod.mk.inj e).2, hr⟩
  · cases hr
theorem n_BB {σ : Type} (q : (Int × Bool) → Option σ) (x0 : Int) (x1 : Int) (x2 : Int) (x3 : Bool) : (f_BB x0 x1 x2 x3).bind q = K_BB f_BD f_BS f_Ae  x0 x1 x2 x3 q := by
  unfold f_BB
  exact m_BB q f_BD f_BS f_Ae   x0 x1 x2 x3 some
theorem s_BB [Amb] : Sound Try.prog 93 (F_BB f_BB) := (inl_sound (l := [(113, F_BD f_BD), (18, F_BS f_BS), (112, F_Ae f_Ae)]) (.cons s_BD (.cons s_BS (.cons s_Ae (.nil _)))) mixed [] [] 200 (by kernel_rfl)).by (F := F_BB f_BB) fun args b r hr => by
  obtain ⟨x0, x1, x2, x3, rfl, rfl, hr1⟩ := e_BB hr
  exact inl_eval ((d_BB f_BD f_BS f_Ae  x0 x1 x2 x3).trans ((n_BB (fun (d : Int × Bool) => some (Res.mk (rI d.1) [Ch.set [sB d.2]] [])) x0 x1 x2 x3).symm.trans hr1))

def K_AK {ρ : Type} (g_AB : t4E1) (g_Az : t5E1) (g_BB : t6E1) (x0 : Int) (x1 : Int) (x2 : Int) (x3 : Bool) (k : (Int × Bool) → Option ρ) : Option ρ := Option.bind (g_AB x0 x3) fun (d : Int × Bool) => Option.bind (g_AB x1 d.2) fun (d_1 : Int ×
 Bool) => Option.bind (g_Az d.1 d_1.1) fun (d : Int × Int) => Option.bind (g_AB x2 d_1.2) fun (d_2 : Int × Bool) => Option.bind (g_BB d.1 d.2 d_2.1 d_2.2) fun (d : Int × Bool) => k (d.1, d.2)
def f_AK (x0 : Int) (x1 : Int) (x2 : Int) (x3 : Bool) : Option (Int × Bool) := K_AK f_AB f_Az f_BB  x0 x1 x2 x3 some
section
open Go.Ab.Rdr
def QA_AK := ((pair (cons (ar (rc (cptr (nat 0) (ok' (nat 0)) (nat 1)))) (cons (ar (rc (cf (fi .i64 hole)))) (cons (ar (rc (cf (fi .i64 hole)))) (cons (ar (rc (cf (fi .i64 hole)))) nil)))) (cons (cons (gc (cf (fb hole))) nil) nil)) : Rdr (List AV × List Blk) _)
end
def F_AK (f : (Int) → (Int) → (Int) → (Bool) → Option (Int × Bool)) : Sem1 := fun args h => match (QA_AK).rd (args, h) with
  | some b => .opt (f b.1.2.1 b.1.2.2.1 b.1.2.2.2.1 b.2.1.1) fun (d : Int × Bool) => .leaf (Res.mk (rI d.1) [Ch.set [sB d.2]] [])
  | none => .fail
theorem d_AK (g_AB : t4E1) (g_Az : t5E1) (g_BB : t6E1) (x0 : Int) (x1 : Int) (x2 : Int) (x3 : Bool) : den Try.prog (envOf [(91, F_AB g_AB), (23, F_Az g_Az), (93, F_BB g_BB)]) ⟨[], [], [], [], none⟩ 200 68 [.r (.c (.ptr 0 (.k 0) 1)),
 rI x0, rI x1, rI x2] [[.c (.f (.b x3))]] = K_AK g_AB g_Az g_BB x0 x1 x2 x3 (fun (d : Int × Bool) => some (Res.mk (rI d.1) [Ch.set [sB d.2]] [])) := by kernel_rfl
theorem m_AK {ρ σ : Type} (q : ρ → Option σ) (g_AB : t4E1) (g_Az : t5E1) (g_BB : t6E1)   (x0 : Int) (x1 : Int) (x2 : Int) (x3 : Bool) (k : (Int × Bool) → Option ρ) : (K_AK g_AB g_Az g_BB  x0 x1 x2 x3 k).bind q = K_AK g_AB g_Az g_BB  x0 x1 x2 x3 (fun d => (k d).bind q) := by
  simp only [K_AK, bnd_cond, bnd_bind, bnd_none, bnd_sum]
theorem qa_AK : ∀ b, (QA_AK).em b = ([.r (.c (.ptr 0 (.k 0) 1)), rI b.1.2.1, rI b.1.2.2.1, rI b.1.2.2.2.1], [[.c (.f (.b b.2.1.1))]]) := fun b => by kernel_rfl
theorem e_AK {f : (Int) → (Int) → (Int) → (Bool) → Option (Int × Bool)} {args : List AV} {h : List Blk} {r : Res} (hr : (F_AK f args h).eval = some r) : ∃ x0 x1 x2 x3, args = [.r (.c (.ptr 0 (.k 0) 1)), rI x0, rI x1, rI x2] ∧ h = [[.c (.f (.b x3))]] ∧ (f x0 x1 x2 x3).bind (fun (d : Int × Bool) => some (Res.mk (rI d.1) [Ch.set [sB d.2]] [])) = some r := by
  unfold F_AK at hr
  split at hr
  · rename_i b hb
    have e := ((QA_AK).ok _ _ hb).trans (qa_AK b)
    rw [opt_eval2] at hr
    exact ⟨b.1.2.1, b.1.2.2.1, b.1.2.2.2.1, b.2.1.1, (Prod.mk.inj e).1, (Prod.mk.inj e).2, hr⟩
  · cases hr
theorem n_AK {σ : Type} (q : (Int × Bool) → Option σ) (x0 : Int) (x1 : Int) (x2 : Int) (x3 : Bool) : (f_AK x0 x1 x2 x3).bind q = K_AK f_AB f_Az f_BB  x0 x1 x2 x3 q := by
  unfold f_AK
  exact m_AK q f_AB f_Az f_BB   x0 x1 x2 x3 some
theorem s_AK [Amb] : Sound Try.prog 68 (F_AK f_AK) := (inl_sound (l := [(91, F_AB f_AB), (23, F_Az f_Az), (93, F_BB f_BB)]) (.cons s_AB (.cons s_Az (.cons s_BB (.nil _)))) mixed [] [] 200 (by kernel_rfl)).by (F := F_AK f_AK) fun args b r hr => by
  obtain ⟨x0, x1, x2, x3, rfl, rfl, hr1⟩ := e_AK hr
  exact inl_eval ((d_AK f_AB f_Az f_BB  x0 x1 x2 x3).trans ((n_AK (fun (d : Int × Bool) => some (Res.mk (rI d.1) [Ch.set [sB d.2]] [])) x0 x1 x2 x3).symm.trans hr1))

def K_BN {ρ : Type} (g_AB : t4E1) (g_Aw : t7E1) (g_BB : t6E1) (x0 : Int) (x1 : Int) (x2 : Int) (x3 : Bool) (k : (Int × Bool) → Option ρ) : Option ρ := Option.bind (g_AB x0 x3) fun (d : Int × Bool) => Option.bind (g_AB x1 d.2) fun (d_1 : Int ×
 Bool) => bif decide (x2 < 0) then k (0, true) else bif decide (x2 > 66) then k (0, true) else Option.bind (g_Aw d.1 x2) fun (d : Int × Int × Bool) => Option.bind (g_BB d.1 d.2.1 d_1.1 d_1.2) fun (d : Int × Bool) => k (d.1, d.2)
def f_BN (x0 : Int) (x1 : Int) (x2 : Int) (x3 : Bool) : Option (Int × Bool) := K_BN f_AB f_Aw f_BB  x0 x1 x2 x3 some
section
open Go.Ab.Rdr
def QA_BN := ((pair (cons (ar (rc (cptr (nat 0) (ok' (nat 0)) (nat 1)))) (cons (ar (rc (cf (fi .i64 hole)))) (cons (ar (rc (cf (fi .i64 hole)))) (cons (ar (rc (cf (fi .i64 hole)))) nil)))) (cons (cons (gc (cf (fb hole))) nil) nil)) : Rdr (List AV × List Blk) _)
end
def F_BN (f : (Int) → (Int) → (Int) → (Bool) → Option (Int × Bool)) : Sem1 := fun args h => match (QA_BN).rd (args, h) with
  | some b => .opt (f b.1.2.1 b.1.2.2.1 b.1.2.2.2.1 b.2.1.1) fun (d : Int × Bool) => .leaf (Res.mk (rI d.1) [Ch.set [sB d.2]] [])
  | none => .fail
theorem d_BN (g_AB : t4E1) (g_Aw : t7E1) (g_BB : t6E1) (x0 : Int) (x1 : Int) (x2 : Int) (x3 : Bool) : den Try.prog (envOf [(91, F_AB g_AB), (31, F_Aw g_Aw), (93, F_BB g_BB)]) ⟨[], [], [], [], none⟩ 200 72 [.r (.c (.ptr 0 (.k 0) 1)),
 rI x0, rI x1, rI x2] [[.c (.f (.b x3))]] = K_BN g_AB g_Aw g_BB x0 x1 x2 x3 (fun (d : Int × Bool) => some (Res.mk (rI d.1) [Ch.set [sB d.2]] [])) := by kernel_rfl
theorem m_BN {ρ σ : Type} (q : ρ → Option σ) (g_AB : t4E1) (g_Aw : t7E1) (g_BB : t6E1)   (x0 : Int) (x1 : Int) (x2 : Int) (x3 : Bool) (k : (Int × Bool) → Option ρ) : (K_BN g_AB g_Aw g_BB  x0 x1 x2 x3 k).bind q = K_BN g_AB g_Aw g_BB  x0 x1 x2 x3 (fun d => (k d).bind q) := by
  simp only [K_BN, bnd_cond, bnd_bind, bnd_none, bnd_sum]
theorem qa_BN : ∀ b, (QA_BN).em b = ([.r (.c (.ptr 0 (.k 0) 1)), rI b.1.2.1, rI b.1.2.2.1, rI b.1.2.2.2.1], [[.c (.f (.b b.2.1.1))]]) := fun b => by kernel_rfl
theorem e_BN {f : (Int) → (Int) → (Int) → (Bool) → Option (Int × Bool)} {args : List AV} {h : List Blk} {r : Res} (hr : (F_BN f args h).eval = some r) : ∃ x0 x1 x2 x3, args = [.r (.c (.ptr 0 (.k 0) 1)), rI x0, rI x1, rI x2] ∧ h = [[.c (.f (.b x3))]] ∧ (f x0 x1 x2 x3).bind (fun (d : Int × Bool) => some (Res.mk (rI d.1) [Ch.set [sB d.2]] [])) = some r := by
  unfold F_BN at hr
  split at hr
  · rename_i b hb
    have e := ((QA_BN).ok _ _ hb).trans (qa_BN b)
    rw [opt_eval2] at hr
    exact ⟨b.1.2.1, b.1.2.2.1, b.1.2.2.2.1, b.2.1.1, (Prod.mk.inj e).1, (Prod.mk.inj e).2, hr⟩
  · cases hr
theorem n_BN {σ : Type} (q : (Int × Bool) → Option σ) (x0 : Int) (x1 : Int) (x2 : Int) (x3 : Bool) : (f_BN x0 x1 x2 x3).bind q = K_BN f_AB f_Aw f_BB  x0 x1 x2 x3 q := by
  unfold f_BN
  exact m_BN q f_AB f_Aw f_BB   x0 x1 x2 x3 some
theorem s_BN [Amb] : Sound Try.prog 72 (F_BN f_BN) := (inl_sound (l := [(91, F_AB f_AB), (31, F_Aw f_Aw), (93, F_BB f_BB)]) (.cons s_AB (.cons s_Aw (.cons s_BB (.nil _)))) mixed [] [] 200 (by kernel_rfl)).by (F := F_BN f_BN) fun args b r hr => by
  obtain ⟨x0, x1, x2, x3, rfl, rfl, hr1⟩ := e_BN hr
  exact inl_eval ((d_BN f_AB f_Aw f_BB  x0 x1 x2 x3).trans ((n_BN (fun (d : Int × Bool) => some (Res.mk (rI d.1) [Ch.set [sB d.2]] [])) x0 x1 x2 x3).symm.trans hr1))

def K_BT {ρ : Type} (g_Aa : t8E1) (g_AB : t4E1) (x0 : Int) (x1 : Int) (x2 : Bool) (k : (Int × Bool) → Option ρ) : Option ρ := Option.bind (g_Aa x0 x1) fun (d : Int × Bool) => bif !d.2 then Option.bind (g_AB 1152921504606846977 x2) fun (d : Int ×
 Bool) => k (d.1, d.2) else Option.bind (g_AB d.1 x2) fun (d : Int × Bool) => k (d.1, d.2)
def f_BT (x0 : Int) (x1 : Int) (x2 : Bool) : Option (Int × Bool) := K_BT f_Aa f_AB  x0 x1 x2 some
section
open Go.Ab.Rdr
def QA_BT := ((pair (cons (ar (rc (cptr (nat 0) (ok' (nat 0)) (nat 1)))) (cons (ar (ra (cons (gc (cf (fi .i64 hole))) (cons (gc (cf (fi .u64 hole))) nil)))) nil)) (cons (cons (gc (cf (fb hole))) nil) nil)) : Rdr (List AV × List Blk) _)
end
def F_BT (f : (Int) → (Int) → (Bool) → Option (Int × Bool)) : Sem1 := fun args h => match (QA_BT).rd (args, h) with
  | some b => .opt (f b.1.2.1.1 b.1.2.1.2.1 b.2.1.1) fun (d : Int × Bool) => .leaf (Res.mk (rI d.1) [Ch.set [sB d.2]] [])
  | none => .fail
theorem d_BT (g_Aa : t8E1) (g_AB : t4E1) (x0 : Int) (x1 : Int) (x2 : Bool) : den Try.prog (envOf [(15, F_Aa g_Aa), (91, F_AB g_AB)]) ⟨[], [], [], [], none⟩ 200 98 [.r (.c (.ptr 0 (.k 0) 1)), .r (.agg [.c (.f (.i .i64 x0)), .c (.f (.i .u64 x1))])] [[.c (.f (.b x2))]] = K_BT g_Aa g_AB x0 x1 x2 (fun (d : Int ×
 Bool) => some (Res.mk (rI d.1) [Ch.set [sB d.2]] [])) := by kernel_rfl
theorem m_BT {ρ σ : Type} (q : ρ → Option σ) (g_Aa : t8E1) (g_AB : t4E1)   (x0 : Int) (x1 : Int) (x2 : Bool) (k : (Int × Bool) → Option ρ) : (K_BT g_Aa g_AB  x0 x1 x2 k).bind q = K_BT g_Aa g_AB  x0 x1 x2 (fun d => (k d).bind q) := by
  simp only [K_BT, bnd_cond, bnd_bind, bnd_none, bnd_sum]
theorem qa_BT : ∀ b, (QA_BT).em b = ([.r (.c (.ptr 0 (.k 0) 1)), .r (.agg [.c (.f (.i .i64 b.1.2.1.1)), .c (.f (.i .u64 b.1.2.1.2.1))])], [[.c (.f (.b b.2.1.1))]]) := fun b => by kernel_rfl
theorem e_BT {f : (Int) → (Int) → (Bool) → Option (Int × Bool)} {args : List AV} {h : List Blk} {r : Res} (hr : (F_BT f args h).eval = some r) : ∃ x0 x1 x2, args = [.r (.c (.ptr 0 (.k 0) 1)), .r (.agg [.c (.f (.i .i64 x0)), .c (.f (.i .u64 x1))])] ∧ h = [[.c (.f (.b x2))]] ∧ (f x0 x1 x2).bind (fun (d : Int × Bool) => some (Res.mk (rI d.1) [Ch.set [sB d.2]] [])) = some r := by
  unfold F_BT at hr
  split at hr
  · rename_i b hb
    have e := ((QA_BT).ok _ _ hb).trans (qa_BT b)
    rw [opt_eval2] at hr
    exact ⟨b.1.2.1.1, b.1.2.1.2.1, b.2.1.1, (Prod.mk.inj e).1, (Prod.mk.inj e).2, hr⟩
  · cases hr
theorem n_BT {σ : Type} (q : (Int × Bool) → Option σ) (x0 : Int) (x1 : Int) (x2 : Bool) : (f_BT x0 x1 x2).bind q = K_BT f_Aa f_AB  x0 x1 x2 q := by
  unfold f_BT
  exact m_BT q f_Aa f_AB   x0 x1 x2 some
theorem s_BT [Amb] : Sound Try.prog 98 (F_BT f_BT) := (inl_sound (l := [(15, F_Aa f_Aa), (91, F_AB f_AB)]) (.cons s_Aa (.cons s_AB (.nil _))) mixed [] [] 200 (by kernel_rfl)).by (F := F_BT f_BT) fun args b r hr => by
  obtain ⟨x0, x1, x2, rfl, rfl, hr1⟩ := e_BT hr
  exact inl_eval ((d_BT f_Aa f_AB  x0 x1 x2).trans ((n_BT (fun (d : Int × Bool) => some (Res.mk (rI d.1) [Ch.set [sB d.2]] [])) x0 x1 x2).symm.trans hr1))

def K_BU {ρ : Type} (g_AB : t4E1) (g_Aw : t7E1) (g_BT : t9E1) (x0 : Int) (x1 : Bool) (k : (Int × Bool) → Option ρ) : Option ρ := Option.bind (g_AB x0 x1) fun (d : Int × Bool) => bif decide (d.1 < 0) then k (0,
 true) else Option.bind (g_Aw d.1 30) fun (d_1 : Int × Int × Bool) => Option.bind (g_BT d_1.1 d_1.2.1 d.2) fun (d : Int × Bool) => k (d.1, d.2)
def f_BU (x0 : Int) (x1 : Bool) : Option (Int × Bool) := K_BU f_AB f_Aw f_BT  x0 x1 some
section
open Go.Ab.Rdr
def QA_BU := ((pair (cons (ar (rc (cptr (nat 0) (ok' (nat 0)) (nat 1)))) (cons (ar (rc (cf (fi .i64 hole)))) nil)) (cons (cons (gc (cf (fb hole))) nil) nil)) : Rdr (List AV × List Blk) _)
end
def F_BU (f : (Int) → (Bool) → Option (Int × Bool)) : Sem1 := fun args h => match (QA_BU).rd (args, h) with
  | some b => .opt (f b.1.2.1 b.2.1.1) fun (d : Int × Bool) => .leaf (Res.mk (rI d.1) [Ch.set [sB d.2]] [])
  | none => .fail
theorem d_BU (g_AB : t4E1) (g_Aw : t7E1) (g_BT : t9E1) (x0 : Int) (x1 : Bool) : den Try.prog (envOf [(91, F_AB g_AB), (31, F_Aw g_Aw), (98, F_BT g_BT)]) ⟨[], [], [], [], none⟩ 200 71 [.r (.c (.ptr 0 (.k 0) 1)),
 rI x0] [[.c (.f (.b x1))]] = K_BU g_AB g_Aw g_BT x0 x1 (fun (d : Int × Bool) => some (Res.mk (rI d.1) [Ch.set [sB d.2]] [])) := by kernel_rfl
theorem m_BU {ρ σ : Type} (q : ρ → Option σ) (g_AB : t4E1) (g_Aw : t7E1) (g_BT : t9E1)   (x0 : Int) (x1 : Bool) (k : (Int × Bool) → Option ρ) : (K_BU g_AB g_Aw g_BT  x0 x1 k).bind q = K_BU g_AB g_Aw g_BT  x0 x1 (fun d => (k d).bind q) := by
  simp only [K_BU, bnd_cond, bnd_bind, bnd_none, bnd_sum]
theorem qa_BU : ∀ b, (QA_BU).em b = ([.r (.c (.ptr 0 (.k 0) 1)), rI b.1.2.1], [[.c (.f (.b b.2.1.1))]]) := fun b => by kernel_rfl
theorem e_BU {f : (Int) → (Bool) → Option (Int × Bool)} {args : List AV} {h : List Blk} {r : Res} (hr : (F_BU f args h).eval = some r) : ∃ x0 x1, args = [.r (.c (.ptr 0 (.k 0) 1)), rI x0] ∧ h = [[.c (.f (.b x1))]] ∧ (f x0 x1).bind (fun (d : Int × Bool) => some (Res.mk (rI d.1) [Ch.set [sB d.2]] [])) = some r := by
  unfold F_BU at hr
  split at hr
  · rename_i b hb
    have e := ((QA_BU).ok _ _ hb).trans (qa_BU b)
    rw [opt_eval2] at hr
    exact ⟨b.1.2.1, b.2.1.1, (Prod.mk.inj e).1, (Prod.mk.inj e).2, hr⟩
  · cases hr
theorem n_BU {σ : Type} (q : (Int × Bool) → Option σ) (x0 : Int) (x1 : Bool) : (f_BU x0 x1).bind q = K_BU f_AB f_Aw f_BT  x0 x1 q := by
  unfold f_BU
  exact m_BU q f_AB f_Aw f_BT   x0 x1 some
theorem s_BU [Amb] : Sound Try.prog 71 (F_BU f_BU) := (inl_sound (l := [(91, F_AB f_AB), (31, F_Aw f_Aw), (98, F_BT f_BT)]) (.cons s_AB (.cons s_Aw (.cons s_BT (.nil _)))) mixed [] [] 200 (by kernel_rfl)).by (F := F_BU f_BU) fun args b r hr => by
  obtain ⟨x0, x1, rfl, rfl, hr1⟩ := e_BU hr
  exact inl_eval ((d_BU f_AB f_Aw f_BT  x0 x1).trans ((n_BU (fun (d : Int × Bool) => some (Res.mk (rI d.1) [Ch.set [sB d.2]] [])) x0 x1).symm.trans hr1))

def K_At {ρ : Type} (x0 : Int) (k : (Int) → Option ρ) : Option ρ := bif decide (Int.tmod x0 6746518852 > 3373259426) then k (IntKind.wrap IntKind.i64 (Int.tmod x0 6746518852 - 6746518852)) else bif decide (Int.tmod x0 6746518852 ≤ -3373259426) then k (IntKind.wrap IntKind.i64 (Int.tmod x0 6746518852 + 6746518852)) else
 k (Int.tmod x0 6746518852)
def f_At (x0 : Int) : Option (Int) := K_At   x0 some
section
open Go.Ab.Rdr
def QA_At := ((pair (cons (ar (rc (cf (fi .i64 hole)))) nil) nil) : Rdr (List AV × List Blk) _)
end
def F_At (f : (Int) → Option (Int)) : Sem1 := fun args h => match (QA_At).rd (args, h) with
  | some b => .opt (f b.1.1) fun (d : Int) => .leaf (Res.mk (rI d) [] [])
  | none => .fail
theorem d_At (x0 : Int) : den Try.prog (envOf []) ⟨[], [], [], [], none⟩ 200 94 [rI x0] [] = K_At x0 (fun (d : Int) => some (Res.mk (rI d) [] [])) := by kernel_rfl
theorem m_At {ρ σ : Type} (q : ρ → Option σ)    (x0 : Int) (k : (Int) → Option ρ) : (K_At   x0 k).bind q = K_At   x0 (fun d => (k d).bind q) := by
  simp only [K_At, bnd_cond, bnd_bind, bnd_none, bnd_sum]
theorem qa_At : ∀ b, (QA_At).em b = ([rI b.1.1], []) := fun b => by kernel_rfl
theorem e_At {f : (Int) → Option (Int)} {args : List AV} {h : List Blk} {r : Res} (hr : (F_At f args h).eval = some r) : ∃ x0, args = [rI x0] ∧ h = [] ∧ (f x0).bind (fun (d : Int) => some (Res.mk (rI d) [] [])) = some r := by
  unfold F_At at hr
  split at hr
  · rename_i b hb
    have e := ((QA_At).ok _ _ hb).trans (qa_At b)
    rw [opt_eval2] at hr
    exact ⟨b.1.1, (Prod.mk.inj e).1, (Prod.mk.inj e).2, hr⟩
  · cases hr
theorem n_At {σ : Type} (q : (Int) → Option σ) (x0 : Int) : (f_At x0).bind q = K_At   x0 q := by
  unfold f_At
  exact m_At q    x0 some
theorem s_At [Amb] : Sound Try.prog 94 (F_At f_At) := (inl_sound (l := []) (.nil _) mixed [] [] 200 (by kernel_rfl)).by (F := F_At f_At) fun args b r hr => by
  obtain ⟨x0, rfl, rfl, hr1⟩ := e_At hr
  exact inl_eval ((d_At   x0).trans ((n_At (fun (d : Int) => some (Res.mk (rI d) [] [])) x0).symm.trans hr1))

def K_Af {ρ : Type} (g_Ag : t6E1) (x0 : Int) (x1 : Int) (x2 : Bool) (k : (Int × Bool) → Option ρ) : Option ρ := Option.bind (g_Ag x0 x1 30 x2) fun (d : Int × Bool) => k (d.1, d.2)
def f_Af (x0 : Int) (x1 : Int) (x2 : Bool) : Option (Int × Bool) := K_Af f_Ag  x0 x1 x2 some
section
open Go.Ab.Rdr
def QA_Af := ((pair (cons (ar (rc (cptr (nat 0) (ok' (nat 0)) (nat 1)))) (cons (ar (rc (cf (fi .i64 hole)))) (cons (ar (rc (cf (fi .i64 hole)))) nil))) (cons (cons (gc (cf (fb hole))) nil) nil)) : Rdr (List AV × List Blk) _)
end
def F_Af (f : (Int) → (Int) → (Bool) → Option (Int × Bool)) : Sem1 := fun args h => match (QA_Af).rd (args, h) with
  | some b => .opt (f b.1.2.1 b.1.2.2.1 b.2.1.1) fun (d : Int × Bool) => .leaf (Res.mk (rI d.1) [Ch.set [sB d.2]] [])
  | none => .fail
theorem d_Af (g_Ag : t6E1) (x0 : Int) (x1 : Int) (x2 : Bool) : den Try.prog (envOf [(67, F_Ag g_Ag)]) ⟨[], [], [], [], none⟩ 200 96 [.r (.c (.ptr 0 (.k 0) 1)), rI x0, rI x1] [[.c (.f (.b x2))]] = K_Af g_Ag x0 x1 x2 (fun (d : Int ×
 Bool) => some (Res.mk (rI d.1) [Ch.set [sB d.2]] [])) := by kernel_rfl
theorem m_Af {ρ σ : Type} (q : ρ → Option σ) (g_Ag : t6E1)   (x0 : Int) (x1 : Int) (x2 : Bool) (k : (Int × Bool) → Option ρ) : (K_Af g_Ag  x0 x1 x2 k).bind q = K_Af g_Ag  x0 x1 x2 (fun d => (k d).bind q) := by
  simp only [K_Af, bnd_cond, bnd_bind, bnd_none, bnd_sum]
theorem qa_Af : ∀ b, (QA_Af).em b = ([.r (.c (.ptr 0 (.k 0) 1)), rI b.1.2.1, rI b.1.2.2.1], [[.c (.f (.b b.2.1.1))]]) := fun b => by kernel_rfl
theorem e_Af {f : (Int) → (Int) → (Bool) → Option (Int × Bool)} {args : List AV} {h : List Blk} {r : Res} (hr : (F_Af f args h).eval = some r) : ∃ x0 x1 x2, args = [.r (.c (.ptr 0 (.k 0) 1)), rI x0, rI x1] ∧ h = [[.c (.f (.b x2))]] ∧ (f x0 x1 x2).bind (fun (d : Int × Bool) => some (Res.mk (rI d.1) [Ch.set [sB d.2]] [])) = some r := by
  unfold F_Af at hr
  split at hr
  · rename_i b hb
    have e := ((QA_Af).ok _ _ hb).trans (qa_Af b)
    rw [opt_eval2] at hr
    exact ⟨b.1.2.1, b.1.2.2.1, b.2.1.1, (Prod.mk.inj e).1, (Prod.mk.inj e).2, hr⟩
  · cases hr
theorem n_Af {σ : Type} (q : (Int × Bool) → Option σ) (x0 : Int) (x1 : Int) (x2 : Bool) : (f_Af x0 x1 x2).bind q = K_Af f_Ag  x0 x1 x2 q := by
  unfold f_Af
  exact m_Af q f_Ag   x0 x1 x2 some
theorem s_Af [Amb] : Sound Try.prog 96 (F_Af f_Af) := (inl_sound (l := [(67, F_Ag f_Ag)]) (.cons s_Ag (.nil _)) mixed [] [] 200 (by kernel_rfl)).by (F := F_Af f_Af) fun args b r hr => by
  obtain ⟨x0, x1, x2, rfl, rfl, hr1⟩ := e_Af hr
  exact inl_eval ((d_Af f_Ag  x0 x1 x2).trans ((n_Af (fun (d : Int × Bool) => some (Res.mk (rI d.1) [Ch.set [sB d.2]] [])) x0 x1 x2).symm.trans hr1))

def S_AP_0 {ρ : Type} (g_Af : t9E1) (g_AL : t10E1) (x0 : Int) (x1 : Int) (x2 : Nat) (x3 : Bool) (x4 : Int) (x5 : Int) (x6 : Bool) (x7 : Nat) (x8 : Nat → Int) (c : (Int × Int × Nat × Bool × Int × Int × Bool × Nat × (Nat →
 Int)) → Option ρ) (x : (Int × Int × Nat × Bool × Int × Int × Bool × Bool × Nat × NI) → Option ρ) : Option ρ := bif decide (x5 < x4) then bif inR x5 x2 then Option.bind (g_Af x0 x1 x6) fun (d : Int × Bool) => Option.bind (g_AL 2 d.2 (fun (j : Nat) => bif Nat.beq j 1 then d.1 else bif Nat.beq j 0 then
 x8 (1 + Int.toNat x5) else x8 (1 + Int.toNat x5)) true) fun (d : Int × Bool) => c (x0, d.1, x2, x3, x4, IntKind.wrap IntKind.i64 (x5 + 1), d.2, x7, x8) else none else x (x0, x1, x2, x3, x4, x5, decide (x5 < x4), x6, x7, x8)
section
open Go.Ab.Rdr
def Q_AP_0 := (st (cons (ar (rc (cptr (nat 0) (ok' (nat 0)) (nat 1)))) (cons (ar (rc (cf (fi .i64 hole)))) (cons aund (cons aund (cons aund (cons aund (cons aund (cons (ar (rc (cf (fi .i64 hole)))) (cons aund (cons aund (cons aund (cons aund (cons aund (cons aund (cons (ar (rc (csl (nat 1) (ox (nat 0) (nat 1) (nat 1)) (szs hole) (nat 1) hole))) (cons (ar (rc (cf (fi .i64 hole)))) (cons (ar (rc (cf (fi .i64 hole)))) (cons aund (cons aund (cons aund (cons aund (cons aund (cons aund (cons aund (cons aund (cons aund (cons aund (cons aund (cons aund (cons aund nil)))))))))))))))))))))))))))))) (cons (some' (cons (gc (cf (fb hole))) nil)) (cons (some' (cons (ga (szs hole) (cons (ki .i64 hole) nil)) nil)) nil)) (cons (nat 0) nil))
end
theorem q_AP_0 : ∀ b, (Q_AP_0).em b = St.mk [AV.r (RV.c (CV.ptr 0 (Off.k 0) 1)), rI b.1.2.1, un, un, un, un, un, rI b.1.c4.2.2.2.1, un, un, un, un, un, un, AV.r (RV.c (CV.sl 1 (Off.x 0 1 1) (Sz.s b.1.c8.c4.2.2.1.2.2.1) 1 b.1.c8.c4.2.2.1.c4)),
 rI b.1.c8.c4.2.2.2.1, rI b.1.c16.1, un, un, un, un, un, un, un, un, un, un, un, un, un] [some [sB b.2.1.1.1], some [Sg.a (Sz.s b.2.1.2.1.1.1) [kI b.2.1.2.1.1.2.1]]] [0] := fun b => by kernel_rfl
def R_AP_0 (l : ∀ {ρ : Type}, (Int × Int × Nat × Bool × Int × Int × Bool × Nat × NI) → ((Int × Int × Nat × Bool × Int × Int × Bool × Bool × Nat × NI) → Option ρ) → Option ρ) {ρ : Type} (s : St) (K : AX → St → Option ρ) : Option ρ := ((Q_AP_0).rd s).bind fun b => l (b.1.2.1, b.1.c4.2.2.2.1,
 b.1.c8.c4.2.2.1.2.2.1, b.1.c8.c4.2.2.1.c4, b.1.c8.c4.2.2.2.1, b.1.c16.1, b.2.1.1.1, b.2.1.2.1.1.1, b.2.1.2.1.1.2.1) (fun d => K (AX.ex 0) (St.mk [AV.r (RV.c (CV.ptr 0 (Off.k 0) 1)), rI d.1,
 un, un, un, un, un, rI d.2.1, un, un, un, un, un, un, AV.r (RV.c (CV.sl 1 (Off.x 0 1 1) (Sz.s d.2.2.1) 1 d.2.2.2.1)), rI d.c4.1, rI d.c4.2.1,
 rB d.c4.2.2.1, un, un, un, un, un, un, un, un, un, un, un, un] [some [sB d.c4.2.2.2.1], some [Sg.a (Sz.s d.c8.1) [kI d.c8.2]]] [0]))
theorem ms_AP_0 {ρ σ : Type} (g_Af : t9E1) (g_AL : t10E1)   (q : ρ → Option σ) (x0 : Int) (x1 : Int) (x2 : Nat) (x3 : Bool) (x4 : Int) (x5 : Int) (x6 : Bool) (x7 : Nat) (x8 : Nat → Int) (c : (Int × Int × Nat × Bool × Int × Int × Bool × Nat × NI) → Option ρ) (x : (Int × Int × Nat × Bool × Int × Int × Bool × Bool × Nat × NI) → Option ρ) : (S_AP_0 g_Af g_AL  x0 x1 x2 x3 x4 x5 x6 x7 x8 c x).bind q = S_AP_0 g_Af g_AL  x0 x1 x2 x3 x4 x5 x6 x7 x8 (fun d => (c d).bind q) (fun d => (x d).bind q) := by
  simp only [S_AP_0, bnd_cond, bnd_bind, bnd_none, bnd_sum]
def L_AP_0 {ρ : Type} (d : Int × Int × Nat × Bool × Int × Int × Bool × Nat × NI) (k : (Int × Int × Nat × Bool × Int × Int × Bool × Bool × Nat × NI) → Option ρ) : Option ρ := loopK (fun d c x => S_AP_0 f_Af f_AL  d.1 d.2.1 d.2.2.1 d.2.2.2.1 d.c4.1 d.c4.2.1 d.c4.2.2.1 d.c4.2.2.2.1 d.c8 c x) 200 d k
theorem mL_AP_0 {ρ σ : Type} (q : ρ → Option σ) (d : Int × Int × Nat × Bool × Int × Int × Bool × Nat × NI) (k : (Int × Int × Nat × Bool × Int × Int × Bool × Bool × Nat × NI) → Option ρ) : (L_AP_0 d k).bind q = L_AP_0 d fun x => (k x).bind q := loopK_bind q (fun d c x => ms_AP_0 f_Af f_AL q d.1 d.2.1 d.2.2.1 d.2.2.2.1 d.c4.1 d.c4.2.1 d.c4.2.2.1 d.c4.2.2.2.1 d.c8 c x) k _ d
theorem ds_AP_0 {ρ : Type} (g_Af : t9E1) (g_AL : t10E1) (l_0 : ∀ {ρ : Type}, (Int × Int × Nat × Bool × Int × Int × Bool × Nat × NI) → ((Int × Int × Nat × Bool × Int × Int × Bool × Bool × Nat × NI) → Option ρ) →
 Option ρ) (x0 : Int) (x1 : Int) (x2 : Nat) (x3 : Bool) (x4 : Int) (x5 : Int) (x6 : Bool) (x7 : Nat) (x8 : Nat → Int) (c : St → Option ρ) (K : AX → St → Option ρ) : runC Try.prog (envOf [(96, F_Af g_Af), (114, F_AL g_AL)]) ⟨[⟨3, u0E1, []⟩], [⟨3, 2, @R_AP_0 (@l_0)⟩], [0], [], none⟩ (tmpsOf Try.prog 97) 2 200 (loopIn Try.prog 97 3) (St.mk [AV.r (RV.c (CV.ptr 0 (Off.k 0) 1)), rI x0, un, un, un, un, un, rI x1, un, un, un,
 un, un, un, AV.r (RV.c (CV.sl 1 (Off.x 0 1 1) (Sz.s x2) 1 x3)), rI x4, rI x5, un, un, un, un, un, un, un, un, un, un, un, un, un] [some [sB x6], some [Sg.a (Sz.s x7) [kI x8]]] [0]) (next (fun t => t.head 2 ⟨[⟨3,
 u0E1, []⟩], [⟨3, 2, @R_AP_0 (@l_0)⟩], [0], [], none⟩ (loopIn Try.prog 97 3)) c K) = S_AP_0 g_Af g_AL x0 x1 x2 x3 x4 x5 x6 x7 x8 (fun d => c (St.mk [AV.r (RV.c (CV.ptr 0 (Off.k 0) 1)), rI d.1,
 un, un, un, un, un, rI d.2.1, un, un, un, un, un, un, AV.r (RV.c (CV.sl 1 (Off.x 0 1 1) (Sz.s d.2.2.1) 1 d.2.2.2.1)), rI d.c4.1, rI d.c4.2.1,
 un, un, un, un, un, un, un, un, un, un, un, un, un] [some [sB d.c4.2.2.1], some [Sg.a (Sz.s d.c4.2.2.2.1) [kI d.c8]]] [0])) (fun d => K (AX.ex 0) (St.mk [AV.r (RV.c (CV.ptr 0 (Off.k 0) 1)), rI d.1,
 un, un, un, un, un, rI d.2.1, un, un, un, un, un, un, AV.r (RV.c (CV.sl 1 (Off.x 0 1 1) (Sz.s d.2.2.1) 1 d.2.2.2.1)), rI d.c4.1, rI d.c4.2.1,
 rB d.c4.2.2.1, un, un, un, un, un, un, un, un, un, un, un, un] [some [sB d.c4.2.2.2.1], some [Sg.a (Sz.s d.c8.1) [kI d.c8.2]]] [0])) := by kernel_rfl
theorem it_AP_0 {ρ : Type} (x0 : Int) (x1 : Int) (x2 : Nat) (x3 : Bool) (x4 : Int) (x5 : Int) (x6 : Bool) (x7 : Nat) (x8 : Nat → Int) (K : AX → St → Option ρ) : iter (fun t => t.head 2 ⟨[⟨3, u0E1, []⟩], [⟨3, 2, @R_AP_0 (@L_AP_0)⟩],
 [0], [], none⟩ (loopIn Try.prog 97 3)) (runC Try.prog (envOf [(96, F_Af f_Af), (114, F_AL f_AL)]) ⟨[⟨3, u0E1, []⟩], [⟨3, 2, @R_AP_0 (@L_AP_0)⟩], [0], [], none⟩ (tmpsOf Try.prog 97) 2 200 (loopIn Try.prog 97 3)) K 200 (St.mk [AV.r (RV.c (CV.ptr 0 (Off.k 0) 1)),
 rI x0, un, un, un, un, un, rI x1, un, un, un, un, un, un, AV.r (RV.c (CV.sl 1 (Off.x 0 1 1) (Sz.s x2) 1 x3)), rI x4, rI x5,
 un, un, un, un, un, un, un, un, un, un, un, un, un] [some [sB x6], some [Sg.a (Sz.s x7) [kI x8]]] [0]) = L_AP_0 (x0, x1, x2, x3, x4, x5, x6, x7, x8) (fun d => K (AX.ex 0) (St.mk [AV.r (RV.c (CV.ptr 0 (Off.k 0) 1)), rI d.1,
 un, un, un, un, un, rI d.2.1, un, un, un, un, un, un, AV.r (RV.c (CV.sl 1 (Off.x 0 1 1) (Sz.s d.2.2.1) 1 d.2.2.2.1)), rI d.c4.1, rI d.c4.2.1,
 rB d.c4.2.2.1, un, un, un, un, un, un, un, un, un, un, un, un] [some [sB d.c4.2.2.2.1], some [Sg.a (Sz.s d.c8.1) [kI d.c8.2]]] [0])) := iter_loopX (emb := fun (d : Int ×
 Int × Nat × Bool × Int × Int × Bool × Nat × NI) => St.mk [AV.r (RV.c (CV.ptr 0 (Off.k 0) 1)), rI d.1, un, un, un, un, un, rI d.2.1, un, un, un, un, un, un, AV.r (RV.c (CV.sl 1 (Off.x 0 1 1) (Sz.s d.2.2.1) 1 d.2.2.2.1)),
 rI d.c4.1, rI d.c4.2.1, un, un, un, un, un, un, un, un, un, un, un, un, un] [some [sB d.c4.2.2.1], some [Sg.a (Sz.s d.c4.2.2.2.1) [kI d.c8]]] [0]) (step := fun d c x => S_AP_0 f_Af f_AL d.1 d.2.1 d.2.2.1 d.2.2.2.1 d.c4.1 d.c4.2.1 d.c4.2.2.1 d.c4.2.2.2.1 d.c8 c x) (kx := (fun d => K (AX.ex 0) (St.mk [AV.r (RV.c (CV.ptr 0 (Off.k 0) 1)),
 rI d.1, un, un, un, un, un, rI d.2.1, un, un, un, un, un, un, AV.r (RV.c (CV.sl 1 (Off.x 0 1 1) (Sz.s d.2.2.1) 1 d.2.2.2.1)), rI d.c4.1, rI d.c4.2.1,
 rB d.c4.2.2.1, un, un, un, un, un, un, un, un, un, un, un, un] [some [sB d.c4.2.2.2.1], some [Sg.a (Sz.s d.c8.1) [kI d.c8.2]]] [0]))) (fun d c => ds_AP_0 f_Af f_AL (@L_AP_0) d.1 d.2.1 d.2.2.1 d.2.2.2.1 d.c4.1 d.c4.2.1 d.c4.2.2.1 d.c4.2.2.2.1 d.c8 c K) 200 (x0,
 x1, x2, x3, x4, x5, x6, x7, x8)
theorem so_AP_0 [Amb] : ∀ kk, SumOK Try.prog (envOf [(96, F_Af f_Af), (114, F_AL f_AL)]) ⟨[⟨3, u0E1, []⟩], [⟨3, 2, @R_AP_0 (@L_AP_0)⟩], [0], [], none⟩ (tmpsOf Try.prog 97) kk 200 (loopIn Try.prog 97 3) := SumOK.of (id := 3) (k0 := 2) (run := @R_AP_0 (@L_AP_0)) (by kernel_rfl) fun s K r hr => by
    unfold R_AP_0 at hr
    obtain ⟨b, hb, hr1⟩ := Option.bind_eq_some_iff.1 hr
    have e := ((Q_AP_0).ok s b hb).trans (q_AP_0 b)
    subst e
    exact ⟨200, (it_AP_0 b.1.2.1 b.1.c4.2.2.2.1 b.1.c8.c4.2.2.1.2.2.1 b.1.c8.c4.2.2.1.c4 b.1.c8.c4.2.2.2.1 b.1.c16.1 b.2.1.1.1 b.2.1.2.1.1.1 b.2.1.2.1.1.2.1 K).trans hr1⟩
def K_AP {ρ : Type} (g_Af : t9E1) (g_AL : t10E1) (l_0 : ∀ {ρ : Type}, (Int × Int × Nat × Bool × Int × Int × Bool × Nat × NI) → ((Int × Int × Nat × Bool × Int × Int × Bool × Bool × Nat × NI) → Option ρ) →
 Option ρ) (x0 : Int) (x1 : Nat) (x2 : Bool) (x3 : Nat → Int) (w0 : Bool) (k : (Int × Bool) → Option ρ) : Option ρ := bif inR 0 x1 then bif inRe 1 x1 then l_0 (x0, x3 0, x1 - 1, w0 && true, Int.ofNat (x1 - 1), 0, x2, x1, x3) fun (d : Int × Int × Nat × Bool × Int × Int × Bool × Bool × Nat × NI) => k (d.2.1,
 d.c4.2.2.2.1) else none else none
def f_AP (x0 : Int) (x1 : Nat) (x2 : Bool) (x3 : Nat → Int) (w0 : Bool) : Option (Int × Bool) := K_AP f_Af f_AL (@L_AP_0) x0 x1 x2 x3 w0 some
section
open Go.Ab.Rdr
def QA_AP := ((pair (cons (ar (rc (cptr (nat 0) (ok' (nat 0)) (nat 1)))) (cons (ar (rc (cf (fi .i64 hole)))) (cons (ar (rc (csl (nat 1) (ok' (nat 0)) (szs hole) (nat 1) hole))) nil))) (cons (cons (gc (cf (fb hole))) nil) (cons (cons (ga (szs hole) (cons (ki .i64 hole) nil)) nil) nil))) : Rdr (List AV × List Blk) _)
end
def F0_AP (f : (Int) → (Nat) → (Bool) → NI → (Bool) → Option (Int × Bool)) : Sem1 := fun args h => match (QA_AP).rd (args, h) with
  | some b => .test (Nat.beq b.2.2.1.1.1 b.1.2.2.1.2.2.1) (.opt (f b.1.2.1 b.1.2.2.1.2.2.1 b.2.1.1 b.2.2.1.1.2.1 b.1.2.2.1.c4) fun (d : Int × Bool) => .leaf (Res.mk (rI d.1) [Ch.set [sB d.2], Ch.keep] [])) .fail
  | none => .fail
def F_AP (f : (Int) → (Nat) → (Bool) → NI → (Bool) → Option (Int × Bool)) : Sem1 := (nilF 2 [.i .i64] (F0_AP f))
theorem d_AP (g_Af : t9E1) (g_AL : t10E1) (l_0 : ∀ {ρ : Type}, (Int × Int × Nat × Bool × Int × Int × Bool × Nat × NI) → ((Int × Int × Nat × Bool × Int × Int × Bool × Bool × Nat × NI) → Option ρ) → Option ρ) (x0 : Int) (x1 : Nat) (x2 : Bool) (x3 : Nat →
 Int) (w0 : Bool) : den Try.prog (envOf [(96, F_Af g_Af), (114, F_AL g_AL)]) ⟨[⟨3, u0E1, []⟩], [⟨3, 2, @R_AP_0 (@l_0)⟩], [0], [], none⟩ 200 97 [.r (.c (.ptr 0 (.k 0) 1)), rI x0, .r (.c (.sl 1 (.k 0) (.s x1) 1 w0))] [[.c (.f (.b x2))],
 [.a (.s x1) [.i .i64 x3]]] = K_AP g_Af g_AL (@l_0) x0 x1 x2 x3 w0 (fun (d : Int × Bool) => some (Res.mk (rI d.1) [Ch.set [sB d.2], Ch.keep] [])) := by kernel_rfl
theorem m_AP {ρ σ : Type} (q : ρ → Option σ) (g_Af : t9E1) (g_AL : t10E1) (l_0 : ∀ {ρ : Type}, (Int × Int × Nat × Bool × Int × Int × Bool × Nat × NI) → ((Int × Int × Nat × Bool × Int × Int × Bool × Bool × Nat × NI) → Option ρ) → Option ρ) (hl_0 : ∀ {ρ σ : Type} (q : ρ → Option σ) (d : Int × Int × Nat × Bool × Int × Int × Bool × Nat × NI) (k : (Int × Int × Nat × Bool × Int × Int × Bool × Bool × Nat × NI) → Option ρ), (l_0 d k).bind q = l_0 d fun x => (k x).bind q) (x0 : Int) (x1 : Nat) (x2 : Bool) (x3 : Nat → Int) (w0 : Bool) (k : (Int × Bool) → Option ρ) : (K_AP g_Af g_AL (@l_0) x0 x1 x2 x3 w0 k).bind q = K_AP g_Af g_AL (@l_0) x0 x1 x2 x3 w0 (fun d => (k d).bind q) := by
  simp only [K_AP, bnd_cond, bnd_bind, bnd_none, bnd_sum, hl_0]
theorem qa_AP : ∀ b, (QA_AP).em b = ([.r (.c (.ptr 0 (.k 0) 1)), rI b.1.2.1, .r (.c (.sl 1 (.k 0) (.s b.1.2.2.1.2.2.1) 1 b.1.2.2.1.c4))], [[.c (.f (.b b.2.1.1))], [.a (.s b.2.2.1.1.1) [.i .i64 b.2.2.1.1.2.1]]]) := fun b => by kernel_rfl
theorem e_AP {f : (Int) → (Nat) → (Bool) → NI → (Bool) → Option (Int × Bool)} {args : List AV} {h : List Blk} {r : Res} (hr : (F0_AP f args h).eval = some r) : ∃ x0 x1 x2 x3 w0, args = [.r (.c (.ptr 0 (.k 0) 1)), rI x0, .r (.c (.sl 1 (.k 0) (.s x1) 1 w0))] ∧ h = [[.c (.f (.b x2))], [.a (.s x1) [.i .i64 x3]]] ∧ (f x0 x1 x2 x3 w0).bind (fun (d : Int × Bool) => some (Res.mk (rI d.1) [Ch.set [sB d.2], Ch.keep] [])) = some r := by
  unfold F0_AP at hr
  split at hr
  · rename_i b hb
    have e := ((QA_AP).ok _ _ hb).trans (qa_AP b)
    obtain ⟨he, hr1⟩ := test_eval hr
    clear hr
    have hr := hr1
    clear hr1
    rw [Nat.eq_of_beq_eq_true he] at e
    clear he
    rw [opt_eval2] at hr
    exact ⟨b.1.2.1, b.1.2.2.1.2.2.1, b.2.1.1, b.2.2.1.1.2.1, b.1.2.2.1.c4, (Prod.mk.inj e).1, (Prod.mk.inj e).2, hr⟩
  · cases hr
theorem n_AP {σ : Type} (q : (Int × Bool) → Option σ) (x0 : Int) (x1 : Nat) (x2 : Bool) (x3 : Nat → Int) (w0 : Bool) : (f_AP x0 x1 x2 x3 w0).bind q = K_AP f_Af f_AL (@L_AP_0) x0 x1 x2 x3 w0 q := by
  unfold f_AP
  exact m_AP q f_Af f_AL (@L_AP_0) (fun q d k => mL_AP_0 q d k) x0 x1 x2 x3 w0 some
theorem s_AP [Amb] : Sound Try.prog 97 (F_AP f_AP) := Sound.nil 2 [.i .i64] <| (inl_sums (l := [(96, F_Af f_Af), (114, F_AL f_AL)]) (.cons s_Af (.cons s_AL (.nil _))) mixed (hs := ⟨[⟨3, u0E1, []⟩], [⟨3, 2, @R_AP_0 (@L_AP_0)⟩],
 [0], [], none⟩) (lf := 200) (Sums.by (l := [loopIn Try.prog 97 3]) (lj := []) (by kernel_rfl) ⟨so_AP_0, trivial⟩ (by kernel_rfl) trivial) (by kernel_rfl)).by (F := F0_AP f_AP) fun args b r hr => by
  obtain ⟨x0, x1, x2, x3, w0, rfl, rfl, hr1⟩ := e_AP hr
  exact inl_eval ((d_AP f_Af f_AL (@L_AP_0) x0 x1 x2 x3 w0).trans ((n_AP (fun (d : Int × Bool) => some (Res.mk (rI d.1) [Ch.set [sB d.2], Ch.keep] [])) x0 x1 x2 x3 w0).symm.trans hr1))

def K_Aq {ρ : Type} (g_AB : t4E1) (g_At : t11E1) (g_BJ : t11E1) (g_Af : t9E1) (g_AP : t12E1) (x0 : Int) (x1 : Bool) (k : (Int × Bool) → Option ρ) : Option ρ := Option.bind (g_AB x0 x1) fun (d : Int ×
 Bool) => Option.bind (g_At d.1) fun (d_1 : Int) => bif decide (d_1 > 1686629713) then Option.bind (g_BJ (IntKind.wrap IntKind.i64 (3373259426 - d_1))) fun (d_2 : Int) => bif decide (d_2 ≤ 843314857) then Option.bind (g_Af (IntKind.wrap IntKind.i64 (3373259426 - d_1)) (IntKind.wrap IntKind.i64 (3373259426 - d_1)) d.2) fun (d : Int ×
 Bool) => Option.bind (g_AP d.1 6 d.2 (fun (j : Nat) => bif Nat.beq j 5 then 1073741824 else bif Nat.beq j 4 then -178956971 else bif Nat.beq j 3 then 8947849 else bif Nat.beq j 2 then -213044 else bif Nat.beq j 1 then 2959 else bif Nat.beq j 0 then -27 else -27) true) fun (d : Int × Bool) => Option.bind (g_Af (IntKind.wrap IntKind.i64 (3373259426 - d_1)) d.1 d.2) fun (d : Int ×
 Bool) => k (if 1073741824 < if -1073741824 > d.1 then -1073741824 else d.1 then 1073741824 else if -1073741824 > d.1 then -1073741824 else d.1, d.2) else Option.bind (g_Af (IntKind.wrap IntKind.i64 (1686629713 - d_2)) (IntKind.wrap IntKind.i64 (1686629713 - d_2)) d.2) fun (d : Int × Bool) => Option.bind (g_AP d.1 7 d.2 (fun (j : Nat) => bif Nat.beq j 6 then
 1073741824 else bif Nat.beq j 5 then -536870912 else bif Nat.beq j 4 then 44739243 else bif Nat.beq j 3 then -1491308 else bif Nat.beq j 2 then 26631 else bif Nat.beq j 1 then -296 else bif Nat.beq j 0 then 2 else 2) true) fun (d : Int × Bool) => bif decide (IntKind.wrap IntKind.i64 (3373259426 - d_1) < 0) then
 k (if 1073741824 < if -1073741824 > IntKind.wrap IntKind.i64 (0 - d.1) then -1073741824 else IntKind.wrap IntKind.i64 (0 - d.1) then 1073741824 else if -1073741824 > IntKind.wrap IntKind.i64 (0 - d.1) then -1073741824 else IntKind.wrap IntKind.i64 (0 - d.1), d.2) else k (if 1073741824 < if -1073741824 > d.1 then
 -1073741824 else d.1 then 1073741824 else if -1073741824 > d.1 then -1073741824 else d.1, d.2) else bif decide (d_1 < -1686629713) then Option.bind (g_BJ (IntKind.wrap IntKind.i64 (-3373259426 - d_1))) fun (d_2 : Int) => bif decide (d_2 ≤ 843314857) then Option.bind (g_Af (IntKind.wrap IntKind.i64 (-3373259426 - d_1)) (IntKind.wrap IntKind.i64 (-3373259426 - d_1)) d.2) fun (d : Int ×
 Bool) => Option.bind (g_AP d.1 6 d.2 (fun (j : Nat) => bif Nat.beq j 5 then 1073741824 else bif Nat.beq j 4 then -178956971 else bif Nat.beq j 3 then 8947849 else bif Nat.beq j 2 then -213044 else bif Nat.beq j 1 then 2959 else bif Nat.beq j 0 then -27 else -27) true) fun (d : Int × Bool) => Option.bind (g_Af (IntKind.wrap IntKind.i64 (-3373259426 - d_1)) d.1 d.2) fun (d : Int ×
 Bool) => k (if 1073741824 < if -1073741824 > d.1 then -1073741824 else d.1 then 1073741824 else if -1073741824 > d.1 then -1073741824 else d.1, d.2) else Option.bind (g_Af (IntKind.wrap IntKind.i64 (1686629713 - d_2)) (IntKind.wrap IntKind.i64 (1686629713 - d_2)) d.2) fun (d : Int × Bool) => Option.bind (g_AP d.1 7 d.2 (fun (j : Nat) => bif Nat.beq j 6 then
 1073741824 else bif Nat.beq j 5 then -536870912 else bif Nat.beq j 4 then 44739243 else bif Nat.beq j 3 then -1491308 else bif Nat.beq j 2 then 26631 else bif Nat.beq j 1 then -296 else bif Nat.beq j 0 then 2 else 2) true) fun (d : Int × Bool) => bif decide (IntKind.wrap IntKind.i64 (-3373259426 - d_1) < 0) then
 k (if 1073741824 < if -1073741824 > IntKind.wrap IntKind.i64 (0 - d.1) then -1073741824 else IntKind.wrap IntKind.i64 (0 - d.1) then 1073741824 else if -1073741824 > IntKind.wrap IntKind.i64 (0 - d.1) then -1073741824 else IntKind.wrap IntKind.i64 (0 - d.1), d.2) else k (if 1073741824 < if -1073741824 > d.1 then
 -1073741824 else d.1 then 1073741824 else if -1073741824 > d.1 then -1073741824 else d.1, d.2) else Option.bind (g_BJ d_1) fun (d_2 : Int) => bif decide (d_2 ≤ 843314857) then Option.bind (g_Af d_1 d_1 d.2) fun (d : Int × Bool) => Option.bind (g_AP d.1 6 d.2 (fun (j : Nat) => bif Nat.beq j 5 then 1073741824 else
 bif Nat.beq j 4 then -178956971 else bif Nat.beq j 3 then 8947849 else bif Nat.beq j 2 then -213044 else bif Nat.beq j 1 then 2959 else bif Nat.beq j 0 then -27 else -27) true) fun (d : Int × Bool) => Option.bind (g_Af d_1 d.1 d.2) fun (d : Int × Bool) => k (if 1073741824 < if -1073741824 > d.1 then
 -1073741824 else d.1 then 1073741824 else if -1073741824 > d.1 then -1073741824 else d.1, d.2) else Option.bind (g_Af (IntKind.wrap IntKind.i64 (1686629713 - d_2)) (IntKind.wrap IntKind.i64 (1686629713 - d_2)) d.2) fun (d : Int × Bool) => Option.bind (g_AP d.1 7 d.2 (fun (j : Nat) => bif Nat.beq j 6 then
 1073741824 else bif Nat.beq j 5 then -536870912 else bif Nat.beq j 4 then 44739243 else bif Nat.beq j 3 then -1491308 else bif Nat.beq j 2 then 26631 else bif Nat.beq j 1 then -296 else bif Nat.beq j 0 then 2 else 2) true) fun (d : Int × Bool) => bif decide (d_1 < 0) then k (if 1073741824 < if -1073741824 > IntKind.wrap IntKind.i64 (0 - d.1) then
 -1073741824 else IntKind.wrap IntKind.i64 (0 - d.1) then 1073741824 else if -1073741824 > IntKind.wrap IntKind.i64 (0 - d.1) then -1073741824 else IntKind.wrap IntKind.i64 (0 - d.1), d.2) else k (if 1073741824 < if -1073741824 > d.1 then -1073741824 else d.1 then 1073741824 else if -1073741824 > d.1 then
 -1073741824 else d.1, d.2)
def f_Aq (x0 : Int) (x1 : Bool) : Option (Int × Bool) := K_Aq f_AB f_At f_BJ f_Af f_AP  x0 x1 some
section
open Go.Ab.Rdr
def QA_Aq := ((pair (cons (ar (rc (cptr (nat 0) (ok' (nat 0)) (nat 1)))) (cons (ar (rc (cf (fi .i64 hole)))) nil)) (cons (cons (gc (cf (fb hole))) nil) nil)) : Rdr (List AV × List Blk) _)
end
def F_Aq (f : (Int) → (Bool) → Option (Int × Bool)) : Sem1 := fun args h => match (QA_Aq).rd (args, h) with
  | some b => .opt (f b.1.2.1 b.2.1.1) fun (d : Int × Bool) => .leaf (Res.mk (rI d.1) [Ch.set [sB d.2]] [])
  | none => .fail
theorem d_Aq (g_AB : t4E1) (g_At : t11E1) (g_BJ : t11E1) (g_Af : t9E1) (g_AP : t12E1) (x0 : Int) (x1 : Bool) : den Try.prog (envOf [(91, F_AB g_AB), (94, F_At g_At),
 (95, F_BJ g_BJ), (96, F_Af g_Af), (97, F_AP g_AP)]) ⟨[], [], [], [], none⟩ 200 69 [.r (.c (.ptr 0 (.k 0) 1)), rI x0] [[.c (.f (.b x1))]] = K_Aq g_AB g_At g_BJ g_Af g_AP x0 x1 (fun (d : Int × Bool) => some (Res.mk (rI d.1) [Ch.set [sB d.2]] [])) := by kernel_rfl
theorem m_Aq {ρ σ : Type} (q : ρ → Option σ) (g_AB : t4E1) (g_At : t11E1) (g_BJ : t11E1) (g_Af : t9E1) (g_AP : t12E1)   (x0 : Int) (x1 : Bool) (k : (Int × Bool) → Option ρ) : (K_Aq g_AB g_At g_BJ g_Af g_AP  x0 x1 k).bind q = K_Aq g_AB g_At g_BJ g_Af g_AP  x0 x1 (fun d => (k d).bind q) := by
  simp only [K_Aq, bnd_cond, bnd_bind, bnd_none, bnd_sum]
theorem qa_Aq : ∀ b, (QA_Aq).em b = ([.r (.c (.ptr 0 (.k 0) 1)), rI b.1.2.1], [[.c (.f (.b b.2.1.1))]]) := fun b => by kernel_rfl
theorem e_Aq {f : (Int) → (Bool) → Option (Int × Bool)} {args : List AV} {h : List Blk} {r : Res} (hr : (F_Aq f args h).eval = some r) : ∃ x0 x1, args = [.r (.c (.ptr 0 (.k 0) 1)), rI x0] ∧ h = [[.c (.f (.b x1))]] ∧ (f x0 x1).bind (fun (d : Int × Bool) => some (Res.mk (rI d.1) [Ch.set [sB d.2]] [])) = some r := by
  unfold F_Aq at hr
  split at hr
  · rename_i b hb
    have e := ((QA_Aq).ok _ _ hb).trans (qa_Aq b)
    rw [opt_eval2] at hr
    exact ⟨b.1.2.1, b.2.1.1, (Prod.mk.inj e).1, (Prod.mk.inj e).2, hr⟩
  · cases hr
theorem n_Aq {σ : Type} (q : (Int × Bool) → Option σ) (x0 : Int) (x1 : Bool) : (f_Aq x0 x1).bind q = K_Aq f_AB f_At f_BJ f_Af f_AP  x0 x1 q := by
  unfold f_Aq
  exact m_Aq q f_AB f_At f_BJ f_Af f_AP   x0 x1 some
theorem s_Aq [Amb] : Sound Try.prog 69 (F_Aq f_Aq) := (inl_sound (l := [(91, F_AB f_AB), (94, F_At f_At), (95, F_BJ f_BJ), (96, F_Af f_Af), (97, F_AP f_AP)]) (.cons s_AB (.cons s_At (.cons s_BJ (.cons s_Af (.cons s_AP (.nil _)))))) mixed [] [] 200 (by kernel_rfl)).by (F := F_Aq f_Aq) fun args b r hr => by
  obtain ⟨x0, x1, rfl, rfl, hr1⟩ := e_Aq hr
  exact inl_eval ((d_Aq f_AB f_At f_BJ f_Af f_AP  x0 x1).trans ((n_Aq (fun (d : Int × Bool) => some (Res.mk (rI d.1) [Ch.set [sB d.2]] [])) x0 x1).symm.trans hr1))

def K_BK {ρ : Type} (g_At : t11E1) (g_Aq : t4E1) (x0 : Int) (x1 : Bool) (k : (Int × Bool) → Option ρ) : Option ρ := Option.bind (g_At x0) fun (d : Int) => Option.bind (g_Aq (IntKind.wrap IntKind.i64 (1686629713 + d)) x1) fun (d : Int × Bool) => k (d.1, d.2)
def f_BK (x0 : Int) (x1 : Bool) : Option (Int × Bool) := K_BK f_At f_Aq  x0 x1 some
section
open Go.Ab.Rdr
def QA_BK := ((pair (cons (ar (rc (cptr (nat 0) (ok' (nat 0)) (nat 1)))) (cons (ar (rc (cf (fi .i64 hole)))) nil)) (cons (cons (gc (cf (fb hole))) nil) nil)) : Rdr (List AV × List Blk) _)
end
def F_BK (f : (Int) → (Bool) → Option (Int × Bool)) : Sem1 := fun args h => match (QA_BK).rd (args, h) with
  | some b => .opt (f b.1.2.1 b.2.1.1) fun (d : Int × Bool) => .leaf (Res.mk (rI d.1) [Ch.set [sB d.2]] [])
  | none => .fail
theorem d_BK (g_At : t11E1) (g_Aq : t4E1) (x0 : Int) (x1 : Bool) : den Try.prog (envOf [(94, F_At g_At), (69, F_Aq g_Aq)]) ⟨[], [], [], [], none⟩ 200 70 [.r (.c (.ptr 0 (.k 0) 1)), rI x0] [[.c (.f (.b x1))]] = K_BK g_At g_Aq x0 x1 (fun (d : Int ×
 Bool) => some (Res.mk (rI d.1) [Ch.set [sB d.2]] [])) := by kernel_rfl
theorem m_BK {ρ σ : Type} (q : ρ → Option σ) (g_At : t11E1) (g_Aq : t4E1)   (x0 : Int) (x1 : Bool) (k : (Int × Bool) → Option ρ) : (K_BK g_At g_Aq  x0 x1 k).bind q = K_BK g_At g_Aq  x0 x1 (fun d => (k d).bind q) := by
  simp only [K_BK, bnd_cond, bnd_bind, bnd_none, bnd_sum]
theorem qa_BK : ∀ b, (QA_BK).em b = ([.r (.c (.ptr 0 (.k 0) 1)), rI b.1.2.1], [[.c (.f (.b b.2.1.1))]]) := fun b => by kernel_rfl
theorem e_BK {f : (Int) → (Bool) → Option (Int × Bool)} {args : List AV} {h : List Blk} {r : Res} (hr : (F_BK f args h).eval = some r) : ∃ x0 x1, args = [.r (.c (.ptr 0 (.k 0) 1)), rI x0] ∧ h = [[.c (.f (.b x1))]] ∧ (f x0 x1).bind (fun (d : Int × Bool) => some (Res.mk (rI d.1) [Ch.set [sB d.2]] [])) = some r := by
  unfold F_BK at hr
  split at hr
  · rename_i b hb
    have e := ((QA_BK).ok _ _ hb).trans (qa_BK b)
    rw [opt_eval2] at hr
    exact ⟨b.1.2.1, b.2.1.1, (Prod.mk.inj e).1, (Prod.mk.inj e).2, hr⟩
  · cases hr
theorem n_BK {σ : Type} (q : (Int × Bool) → Option σ) (x0 : Int) (x1 : Bool) : (f_BK x0 x1).bind q = K_BK f_At f_Aq  x0 x1 q := by
  unfold f_BK
  exact m_BK q f_At f_Aq   x0 x1 some
theorem s_BK [Amb] : Sound Try.prog 70 (F_BK f_BK) := (inl_sound (l := [(94, F_At f_At), (69, F_Aq f_Aq)]) (.cons s_At (.cons s_Aq (.nil _))) mixed [] [] 200 (by kernel_rfl)).by (F := F_BK f_BK) fun args b r hr => by
  obtain ⟨x0, x1, rfl, rfl, hr1⟩ := e_BK hr
  exact inl_eval ((d_BK f_At f_Aq  x0 x1).trans ((n_BK (fun (d : Int × Bool) => some (Res.mk (rI d.1) [Ch.set [sB d.2]] [])) x0 x1).symm.trans hr1))

def K_AH {ρ : Type} (x0 : Int) (x1 : Int) (x2 : Int) (k : (Bool) → Option ρ) : Option ρ := bif decide (x0 ≥ -900000000) then bif decide (x0 ≤ 900000000) then bif decide (x1 ≥ -1800000000) then bif decide (x1 ≤ 1800000000) then bif decide (x2 ≥ -100000000) then k (decide (x2 ≤ 100000000)) else k false else
 k false else k false else k false else k false
def f_AH (x0 : Int) (x1 : Int) (x2 : Int) : Option (Bool) := K_AH   x0 x1 x2 some
section
open Go.Ab.Rdr
def QA_AH := ((pair (cons (ar (ra (cons (gc (cf (fi .i64 hole))) (cons (gc (cf (fi .i64 hole))) (cons (gc (cf (fi .i64 hole))) nil))))) nil) nil) : Rdr (List AV × List Blk) _)
end
def F_AH (f : (Int) → (Int) → (Int) → Option (Bool)) : Sem1 := fun args h => match (QA_AH).rd (args, h) with
  | some b => .opt (f b.1.1.1 b.1.1.2.1 b.1.1.2.2.1) fun (d : Bool) => .leaf (Res.mk (rB d) [] [])
  | none => .fail
theorem d_AH (x0 : Int) (x1 : Int) (x2 : Int) : den Try.prog (envOf []) ⟨[], [], [], [], none⟩ 200 40 [.r (.agg [.c (.f (.i .i64 x0)), .c (.f (.i .i64 x1)), .c (.f (.i .i64 x2))])] [] = K_AH x0 x1 x2 (fun (d : Bool) => some (Res.mk (rB d) [] [])) := by kernel_rfl
theorem m_AH {ρ σ : Type} (q : ρ → Option σ)    (x0 : Int) (x1 : Int) (x2 : Int) (k : (Bool) → Option ρ) : (K_AH   x0 x1 x2 k).bind q = K_AH   x0 x1 x2 (fun d => (k d).bind q) := by
  simp only [K_AH, bnd_cond, bnd_bind, bnd_none, bnd_sum]
theorem qa_AH : ∀ b, (QA_AH).em b = ([.r (.agg [.c (.f (.i .i64 b.1.1.1)), .c (.f (.i .i64 b.1.1.2.1)), .c (.f (.i .i64 b.1.1.2.2.1))])], []) := fun b => by kernel_rfl
theorem e_AH {f : (Int) → (Int) → (Int) → Option (Bool)} {args : List AV} {h : List Blk} {r : Res} (hr : (F_AH f args h).eval = some r) : ∃ x0 x1 x2, args = [.r (.agg [.c (.f (.i .i64 x0)), .c (.f (.i .i64 x1)), .c (.f (.i .i64 x2))])] ∧ h = [] ∧ (f x0 x1 x2).bind (fun (d : Bool) => some (Res.mk (rB d) [] [])) = some r := by
  unfold F_AH at hr
  split at hr
  · rename_i b hb
    have e := ((QA_AH).ok _ _ hb).trans (qa_AH b)
    rw [opt_eval2] at hr
    exact ⟨b.1.1.1, b.1.1.2.1, b.1.1.2.2.1, (Prod.mk.inj e).1, (Prod.mk.inj e).2, hr⟩
  · cases hr
theorem n_AH {σ : Type} (q : (Bool) → Option σ) (x0 : Int) (x1 : Int) (x2 : Int) : (f_AH x0 x1 x2).bind q = K_AH   x0 x1 x2 q := by
  unfold f_AH
  exact m_AH q    x0 x1 x2 some
theorem s_AH [Amb] : Sound Try.prog 40 (F_AH f_AH) := (inl_sound (l := []) (.nil _) mixed [] [] 200 (by kernel_rfl)).by (F := F_AH f_AH) fun args b r hr => by
  obtain ⟨x0, x1, x2, rfl, rfl, hr1⟩ := e_AH hr
  exact inl_eval ((d_AH   x0 x1 x2).trans ((n_AH (fun (d : Bool) => some (Res.mk (rB d) [] [])) x0 x1 x2).symm.trans hr1))

def K_As {ρ : Type} (g_AH : t13E1) (g_Ag : t6E1) (g_AK : t6E1) (x0 : Int) (x1 : Int) (x2 : Int) (x3 : Int) (x4 : Int) (x5 : Int) (x6 : Int) (x7 : Int) (x8 : Bool) (k : (Int × Int × Int × Int × Bool) →
 Option ρ) : Option ρ := Option.bind (g_AH x0 x1 x2) fun (d : Bool) => bif !d then k (0, 0, 0, 1, x8) else bif decide (IntKind.wrap IntKind.i64 (x1 - x4) > 1800000000) then Option.bind (g_Ag (IntKind.wrap IntKind.i64 (x0 - x3)) x6 10 x8) fun (d : Int × Bool) => Option.bind (g_Ag (IntKind.wrap IntKind.i64 (IntKind.wrap IntKind.i64 (x1 - x4) - 3600000000)) x7 10 d.2) fun (d_1 : Int ×
 Bool) => Option.bind (g_AK (IntKind.wrap IntKind.i64 (x5 - x2)) 1073741824 1000 d_1.2) fun (d_2 : Int × Bool) => k (d.1, d_1.1, d_2.1, 0, d_2.2) else bif decide (IntKind.wrap IntKind.i64 (x1 - x4) ≤ -1800000000) then Option.bind (g_Ag (IntKind.wrap IntKind.i64 (x0 - x3)) x6 10 x8) fun (d : Int × Bool) => Option.bind (g_Ag (IntKind.wrap IntKind.i64 (IntKind.wrap IntKind.i64 (x1 - x4) + 3600000000)) x7 10 d.2) fun (d_1 : Int ×
 Bool) => Option.bind (g_AK (IntKind.wrap IntKind.i64 (x5 - x2)) 1073741824 1000 d_1.2) fun (d_2 : Int × Bool) => k (d.1, d_1.1, d_2.1, 0, d_2.2) else Option.bind (g_Ag (IntKind.wrap IntKind.i64 (x0 - x3)) x6 10 x8) fun (d : Int × Bool) => Option.bind (g_Ag (IntKind.wrap IntKind.i64 (x1 - x4)) x7 10 d.2) fun (d_1 : Int ×
 Bool) => Option.bind (g_AK (IntKind.wrap IntKind.i64 (x5 - x2)) 1073741824 1000 d_1.2) fun (d_2 : Int × Bool) => k (d.1, d_1.1, d_2.1, 0, d_2.2)
def f_As (x0 : Int) (x1 : Int) (x2 : Int) (x3 : Int) (x4 : Int) (x5 : Int) (x6 : Int) (x7 : Int) (x8 : Bool) : Option (Int × Int × Int × Int × Bool) := K_As f_AH f_Ag f_AK  x0 x1 x2 x3 x4 x5 x6 x7 x8 some
section
open Go.Ab.Rdr
def QA_As := ((pair (cons (ar (rc (cptr (nat 0) (ok' (nat 0)) (nat 5)))) (cons (ar (rc (cptr (nat 1) (ok' (nat 0)) (nat 1)))) (cons (ar (ra (cons (gc (cf (fi .i64 hole))) (cons (gc (cf (fi .i64 hole))) (cons (gc (cf (fi .i64 hole))) nil))))) nil))) (cons (cons (gc (cf (fi .i64 hole))) (cons (gc (cf (fi .i64 hole))) (cons (gc (cf (fi .i64 hole))) (cons (gc (cf (fi .i64 hole))) (cons (gc (cf (fi .i64 hole))) nil))))) (cons (cons (gc (cf (fb hole))) nil) nil))) : Rdr (List AV × List Blk) _)
end
def F_As (f : (Int) → (Int) → (Int) → (Int) → (Int) → (Int) → (Int) → (Int) → (Bool) → Option (Int × Int × Int × Int × Bool)) : Sem1 := fun args h => match (QA_As).rd (args, h) with
  | some b => .opt (f b.1.2.2.1.1 b.1.2.2.1.2.1 b.1.2.2.1.2.2.1 b.2.1.1 b.2.1.2.1 b.2.1.2.2.1 b.2.1.2.2.2.1 b.2.1.c4.1 b.2.2.1.1) fun (d : Int × Int × Int × Int × Bool) => .leaf (Res.mk
    (AV.tup [RV.agg [sI d.1, sI d.2.1, sI d.2.2.1], RV.c (fI d.2.2.2.1)])
    [Ch.keep, Ch.set [sB d.c4]] [])
  | none => .fail
theorem d_As (g_AH : t13E1) (g_Ag : t6E1) (g_AK : t6E1) (x0 : Int) (x1 : Int) (x2 : Int) (x3 : Int) (x4 : Int) (x5 : Int) (x6 : Int) (x7 : Int) (x8 : Bool) : den Try.prog (envOf [(40, F_AH g_AH), (67,
 F_Ag g_Ag), (68, F_AK g_AK)]) ⟨[], [], [1], [], none⟩ 200 39 [.r (.c (.ptr 0 (.k 0) 5)), .r (.c (.ptr 1 (.k 0) 1)), .r (.agg [.c (.f (.i .i64 x0)), .c (.f (.i .i64 x1)), .c (.f (.i .i64 x2))])] [[.c (.f (.i .i64 x3)), .c (.f (.i .i64 x4)), .c (.f (.i .i64 x5)), .c (.f (.i .i64 x6)), .c (.f (.i .i64 x7))],
 [.c (.f (.b x8))]] = K_As g_AH g_Ag g_AK x0 x1 x2 x3 x4 x5 x6 x7 x8 (fun (d : Int × Int × Int × Int × Bool) => some (Res.mk (AV.tup [RV.agg [sI d.1, sI d.2.1, sI d.2.2.1], RV.c (fI d.2.2.2.1)]) [Ch.keep,
 Ch.set [sB d.c4]] [])) := by kernel_rfl
theorem m_As {ρ σ : Type} (q : ρ → Option σ) (g_AH : t13E1) (g_Ag : t6E1) (g_AK : t6E1)   (x0 : Int) (x1 : Int) (x2 : Int) (x3 : Int) (x4 : Int) (x5 : Int) (x6 : Int) (x7 : Int) (x8 : Bool) (k : (Int × Int × Int × Int × Bool) → Option ρ) : (K_As g_AH g_Ag g_AK  x0 x1 x2 x3 x4 x5 x6 x7 x8 k).bind q = K_As g_AH g_Ag g_AK  x0 x1 x2 x3 x4 x5 x6 x7 x8 (fun d => (k d).bind q) := by
  simp only [K_As, bnd_cond, bnd_bind, bnd_none, bnd_sum]
theorem qa_As : ∀ b, (QA_As).em b = ([.r (.c (.ptr 0 (.k 0) 5)), .r (.c (.ptr 1 (.k 0) 1)), .r (.agg [.c (.f (.i .i64 b.1.2.2.1.1)), .c (.f (.i .i64 b.1.2.2.1.2.1)), .c (.f (.i .i64 b.1.2.2.1.2.2.1))])], [[.c (.f (.i .i64 b.2.1.1)), .c (.f (.i .i64 b.2.1.2.1)), .c (.f (.i .i64 b.2.1.2.2.1)), .c (.f (.i .i64 b.2.1.2.2.2.1)), .c (.f (.i .i64 b.2.1.c4.1))], [.c (.f (.b b.2.2.1.1))]]) := fun b => by kernel_rfl
theorem e_As {f : (Int) → (Int) → (Int) → (Int) → (Int) → (Int) → (Int) → (Int) → (Bool) → Option (Int × Int × Int × Int × Bool)} {args : List AV} {h : List Blk} {r : Res} (hr : (F_As f args h).eval = some r) : ∃ x0 x1 x2 x3 x4 x5 x6 x7 x8, args = [.r (.c (.ptr 0 (.k 0) 5)), .r (.c (.ptr 1 (.k 0) 1)),
 .r (.agg [.c (.f (.i .i64 x0)), .c (.f (.i .i64 x1)), .c (.f (.i .i64 x2))])] ∧ h = [[.c (.f (.i .i64 x3)), .c (.f (.i .i64 x4)), .c (.f (.i .i64 x5)), .c (.f (.i .i64 x6)), .c (.f (.i .i64 x7))], [.c (.f (.b x8))]] ∧ (f x0 x1 x2 x3 x4 x5 x6 x7 x8).bind (fun (d : Int × Int × Int × Int × Bool) => some (Res.mk (AV.tup [RV.agg [sI d.1,
 sI d.2.1, sI d.2.2.1], RV.c (fI d.2.2.2.1)]) [Ch.keep, Ch.set [sB d.c4]] [])) = some r := by
  unfold F_As at hr
  split at hr
  · rename_i b hb
    have e := ((QA_As).ok _ _ hb).trans (qa_As b)
    rw [opt_eval2] at hr
    exact ⟨b.1.2.2.1.1, b.1.2.2.1.2.1, b.1.2.2.1.2.2.1, b.2.1.1, b.2.1.2.1, b.2.1.2.2.1, b.2.1.2.2.2.1, b.2.1.c4.1, b.2.2.1.1, (Prod.mk.inj e).1, (Prod.mk.inj e).2, hr⟩
  · cases hr
theorem n_As {σ : Type} (q : (Int × Int × Int × Int × Bool) → Option σ) (x0 : Int) (x1 : Int) (x2 : Int) (x3 : Int) (x4 : Int) (x5 : Int) (x6 : Int) (x7 : Int) (x8 : Bool) : (f_As x0 x1 x2 x3 x4 x5 x6 x7 x8).bind q = K_As f_AH f_Ag f_AK  x0 x1 x2 x3 x4 x5 x6 x7 x8 q := by
  unfold f_As
  exact m_As q f_AH f_Ag f_AK   x0 x1 x2 x3 x4 x5 x6 x7 x8 some
theorem s_As [Amb] : Sound Try.prog 39 (F_As f_As) := (inl_sound (l := [(40, F_AH f_AH), (67, F_Ag f_Ag), (68, F_AK f_AK)]) (.cons s_AH (.cons s_Ag (.cons s_AK (.nil _)))) mixed [] [1] 200 (by kernel_rfl)).by (F := F_As f_As) fun args b r hr => by
  obtain ⟨x0, x1, x2, x3, x4, x5, x6, x7, x8, rfl, rfl, hr1⟩ := e_As hr
  exact inl_eval ((d_As f_AH f_Ag f_AK  x0 x1 x2 x3 x4 x5 x6 x7 x8).trans ((n_As (fun (d : Int × Int × Int × Int × Bool) => some (Res.mk
    (AV.tup [RV.agg [sI d.1, sI d.2.1, sI d.2.2.1], RV.c (fI d.2.2.2.1)])
    [Ch.keep, Ch.set [sB d.c4]] [])) x0 x1 x2 x3 x4 x5 x6 x7 x8).symm.trans hr1))

end Go.Proofs.Ytcalippagaaikaa
