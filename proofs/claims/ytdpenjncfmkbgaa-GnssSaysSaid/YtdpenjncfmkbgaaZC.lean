/-
  Contracts by plain functions: astrolaberef16.within, astrolaberef4.Good, astrolaberef16.Spoilt, (*astrolaberef2.Acc).Clamp, (*astrolaberef2.Acc).Sat, astrolaberef2.size, astrolaberef2.product, astrolaberef2.mul, astrolaberef2.less, astrolaberef2.add, astrolaberef2.divided, (*astrolaberef2.Acc).end, (*astrolaberef2.Acc).MulDiv, astrolaberef16.Var, astrolabelaw19.GnssReads Contracts by plain functions: astrolaberef4.Wrap, astrolaberef2.shifted, (*astrolaberef2.Acc).Mul, (*astrolaberef2.Acc).M, (*astrolaberef2.Acc).Add, astrolaberef4.Sin, astrolaberef4.Cos, astrolaberef2.root, (*astrolaberef2.Acc).Sqrt, (*astrolaberef2.Acc).Div, (*astrolaberef2.Acc).D, astrolaberef4.Scales, astrolaberef4.To, (*astrolaberef2.Acc).Sub, astrolaberef16.pick, astrolaberef16.Velocity, astrolaberef16.Horizontal, astrolaberef16.Height
-/
import Derived.Test.YtdpenjncfmkbgaaZA
import Derived.Test.YtdpenjncfmkbgaaZB
set_option linter.unusedVariables false
set_option linter.unusedSimpArgs false
set_option maxRecDepth 100000
set_option maxHeartbeats 4000000
set_option linter.unusedVariables false
namespace Go.Proofs.Ytdpenjncfmkbgaa
open Go.Ab
abbrev u0GNR : List Nat := [0, 3, 8, 9, 10, 11, 12, 13, 14, 15, 16, 17, 18, 19, 20, 21, 22, 23, 24, 25, 26, 27, 28, 29, 30, 31, 32, 33, 34, 35, 36, 37, 38, 39, 40, 41, 42, 43, 44, 45, 46, 47, 48, 49, 50, 51, 52, 53, 54, 55, 56, 57, 58, 59, 60, 61, 62, 63, 64, 65, 66, 67, 68, 69, 70]
abbrev u1GNR : List Nat := [0, 1, 2, 3, 5, 6, 7, 8, 9, 10, 11, 12, 13, 14, 15, 16, 17, 18, 19, 20, 21, 22, 23, 24, 25, 26, 27, 28, 29, 30, 31, 32, 33, 34, 35, 36, 37, 38, 39, 40, 41, 42, 43, 44, 45, 46, 47, 48, 49, 50, 51, 52, 53, 54, 55, 56, 57, 58, 59, 60, 61, 62, 63, 64, 65, 66, 67, 68, 69, 70]
abbrev t2GNR := Int → Int → Int → Bool → Option (Int × Bool)
abbrev t3GNR := Int → Option Int
abbrev t4GNR := Int → Int → Option (Int × Int)
abbrev t5GNR := Int → Int → Bool → Int → Int → Bool → Option Bool
abbrev t6GNR := Int → Int → Bool → Int → Int → Bool → Option (Int × Int × Bool)
abbrev t7GNR := Int → Bool → Option (Int × Bool)
abbrev t8GNR := Int → Int → Option (Int × Int × Bool)
abbrev t9GNR := Int → Int → Bool → Int → Option (Int × Int × Bool)
abbrev t10GNR := Int → Int → Bool → Bool → Option (Int × Bool)
def K_AB {ρ : Type} (x0 : Int) (x1 : Int) (x2 : Int) (x3 : Bool) (k : (Int × Bool) → Option ρ) : Option ρ := bif decide (x0 < x1) then bif x1 != x0 then k (x1, true) else bif decide (x1 > x2) then k (x1, true) else k (x1, x3) else bif decide (x1 > x2) then bif x1 != x0 then k (x1, true) else bif decide (x1 > x2) then
 k (x1, true) else k (x1, x3) else bif decide (x0 > x2) then bif x2 != x0 then k (x2, true) else bif decide (x1 > x2) then k (x2, true) else k (x2, x3) else bif x0 != x0 then k (x0, true) else bif decide (x1 > x2) then k (x0, true) else k (x0, x3)
def f_AB (x0 : Int) (x1 : Int) (x2 : Int) (x3 : Bool) : Option (Int × Bool) := K_AB x0 x1 x2 x3 some
section
open Go.Ab.Rdr
def QA_AB := ((pair (cons (ar (rc (cptr (nat 0) (ok' (nat 0)) (nat 1)))) (cons (ar (rc (cf (fi .i64 hole)))) (cons (ar (rc (cf (fi .i64 hole)))) (cons (ar (rc (cf (fi .i64 hole)))) nil)))) (cons (cons (gc (cf (fb hole))) nil) nil)) : Rdr (List AV × List Blk) _)
end
def F_AB (f : (Int) → (Int) → (Int) → (Bool) → Option (Int × Bool)) : Sem1 := fun args h => match (QA_AB).rd (args, h) with
  | some b => .opt (f b.1.2.1 b.1.2.2.1 b.1.2.2.2.1 b.2.1.1) fun (d : Int × Bool) => .leaf (Res.mk (rI d.1) [Ch.set [sB d.2]] [])
  | none => .fail
theorem d_AB (x0 : Int) (x1 : Int) (x2 : Int) (x3 : Bool) : den Try.prog (envOf []) ⟨[], [], [0], [], none⟩ 200 45 [.r (.c (.ptr 0 (.k 0) 1)), rI x0, rI x1, rI x2] [[.c (.f (.b x3))]] = K_AB x0 x1 x2 x3 (fun (d : Int × Bool) => some (Res.mk (rI d.1) [Ch.set [sB d.2]] [])) := by kernel_rfl
theorem m_AB {ρ σ : Type} (q : ρ → Option σ) (x0 : Int) (x1 : Int) (x2 : Int) (x3 : Bool) (k : (Int × Bool) → Option ρ) : (K_AB x0 x1 x2 x3 k).bind q = K_AB x0 x1 x2 x3 (fun d => (k d).bind q) := by
  simp only [K_AB, bnd_cond, bnd_bind, bnd_none, bnd_sum]
theorem qa_AB : ∀ b, (QA_AB).em b = ([.r (.c (.ptr 0 (.k 0) 1)), rI b.1.2.1, rI b.1.2.2.1, rI b.1.2.2.2.1], [[.c (.f (.b b.2.1.1))]]) := fun b => by kernel_rfl
theorem e_AB {f : (Int) → (Int) → (Int) → (Bool) → Option (Int × Bool)} {args : List AV} {h : List Blk} {r : Res} (hr : (F_AB f args h).eval = some r) : ∃ x0 x1 x2 x3, args = [.r (.c (.ptr 0 (.k 0) 1)), rI x0, rI x1, rI x2] ∧ h = [[.c (.f (.b x3))]] ∧ (f x0 x1 x2 x3).bind (fun (d : Int × Bool) => some (Res.mk (rI d.1) [Ch.set [sB d.2]] [])) = some r := by
  unfold F_AB at hr
  split at hr
  · rename_i b hb
    have e := ((QA_AB).ok _ _ hb).trans (qa_AB b)
    rw [opt_eval2] at hr
    exact ⟨b.1.2.1, b.1.2.2.1, b.1.2.2.2.1, b.2.1.1, (Prod.mk.inj e).1, (Prod.mk.inj e).2, hr⟩
  · cases hr
theorem n_AB {σ : Type} (q : (Int × Bool) → Option σ) (x0 : Int) (x1 : Int) (x2 : Int) (x3 : Bool) : (f_AB x0 x1 x2 x3).bind q = K_AB x0 x1 x2 x3 q := by
  unfold f_AB
  exact m_AB q x0 x1 x2 x3 some
theorem s_AB [Amb] : Sound Try.prog 45 (F_AB f_AB) := (inl_sound (l := []) (.nil _) mixed [] [0] 200 (by kernel_rfl)).by (F := F_AB f_AB) fun args b r hr => by
  obtain ⟨x0, x1, x2, x3, rfl, rfl, hr1⟩ := e_AB hr
  exact inl_eval ((d_AB x0 x1 x2 x3).trans ((n_AB (fun (d : Int × Bool) => some (Res.mk (rI d.1) [Ch.set [sB d.2]] [])) x0 x1 x2 x3).symm.trans hr1))

def K_S {ρ : Type} (g_AB : t2GNR) (x0 : Int) (x1 : Bool) (k : (Int × Bool) → Option ρ) : Option ρ := Option.bind (g_AB x0 (-1152921504606846976) 1152921504606846976 x1) fun (d : Int × Bool) => k (d.1, d.2)
def f_S (x0 : Int) (x1 : Bool) : Option (Int × Bool) := K_S f_AB x0 x1 some
section
open Go.Ab.Rdr
def QA_S := ((pair (cons (ar (rc (cptr (nat 0) (ok' (nat 0)) (nat 1)))) (cons (ar (rc (cf (fi .i64 hole)))) nil)) (cons (cons (gc (cf (fb hole))) nil) nil)) : Rdr (List AV × List Blk) _)
end
def F_S (f : (Int) → (Bool) → Option (Int × Bool)) : Sem1 := fun args h => match (QA_S).rd (args, h) with
  | some b => .opt (f b.1.2.1 b.2.1.1) fun (d : Int × Bool) => .leaf (Res.mk (rI d.1) [Ch.set [sB d.2]] [])
  | none => .fail
theorem d_S (g_AB : t2GNR) (x0 : Int) (x1 : Bool) : den Try.prog (envOf [(45, F_AB g_AB)]) ⟨[], [], [], [], none⟩ 200 41 [.r (.c (.ptr 0 (.k 0) 1)), rI x0] [[.c (.f (.b x1))]] = K_S g_AB x0 x1 (fun (d : Int × Bool) => some (Res.mk (rI d.1) [Ch.set [sB d.2]] [])) := by kernel_rfl
theorem m_S {ρ σ : Type} (q : ρ → Option σ) (g_AB : t2GNR) (x0 : Int) (x1 : Bool) (k : (Int × Bool) → Option ρ) : (K_S g_AB x0 x1 k).bind q = K_S g_AB x0 x1 (fun d => (k d).bind q) := by
  simp only [K_S, bnd_cond, bnd_bind, bnd_none, bnd_sum]
theorem qa_S : ∀ b, (QA_S).em b = ([.r (.c (.ptr 0 (.k 0) 1)), rI b.1.2.1], [[.c (.f (.b b.2.1.1))]]) := fun b => by kernel_rfl
theorem e_S {f : (Int) → (Bool) → Option (Int × Bool)} {args : List AV} {h : List Blk} {r : Res} (hr : (F_S f args h).eval = some r) : ∃ x0 x1, args = [.r (.c (.ptr 0 (.k 0) 1)), rI x0] ∧ h = [[.c (.f (.b x1))]] ∧ (f x0 x1).bind (fun (d : Int × Bool) => some (Res.mk (rI d.1) [Ch.set [sB d.2]] [])) = some r := by
  unfold F_S at hr
  split at hr
  · rename_i b hb
    have e := ((QA_S).ok _ _ hb).trans (qa_S b)
    rw [opt_eval2] at hr
    exact ⟨b.1.2.1, b.2.1.1, (Prod.mk.inj e).1, (Prod.mk.inj e).2, hr⟩
  · cases hr
theorem n_S {σ : Type} (q : (Int × Bool) → Option σ) (x0 : Int) (x1 : Bool) : (f_S x0 x1).bind q = K_S f_AB x0 x1 q := by
  unfold f_S
  exact m_S q f_AB x0 x1 some
theorem s_S [Amb] : Sound Try.prog 41 (F_S f_S) := (inl_sound (l := [(45, F_AB f_AB)]) (.cons s_AB (.nil _)) mixed [] [] 200 (by kernel_rfl)).by (F := F_S f_S) fun args b r hr => by
  obtain ⟨x0, x1, rfl, rfl, hr1⟩ := e_S hr
  exact inl_eval ((d_S f_AB x0 x1).trans ((n_S (fun (d : Int × Bool) => some (Res.mk (rI d.1) [Ch.set [sB d.2]] [])) x0 x1).symm.trans hr1))

def K_AP {ρ : Type} (x0 : Int) (k : (Int) → Option ρ) : Option ρ := bif decide (x0 < 0) then k (IntKind.wrap .u64 (IntKind.wrap .i64 (0 - x0))) else k (IntKind.wrap .u64 x0)
def f_AP (x0 : Int) : Option (Int) := K_AP x0 some
section
open Go.Ab.Rdr
def QA_AP := ((pair (cons (ar (rc (cf (fi .i64 hole)))) nil) nil) : Rdr (List AV × List Blk) _)
end
def F_AP (f : (Int) → Option (Int)) : Sem1 := fun args h => match (QA_AP).rd (args, h) with
  | some b => .opt (f b.1.1) fun (d : Int) => .leaf (Res.mk (rU d) [] [])
  | none => .fail
theorem d_AP (x0 : Int) : den Try.prog (envOf []) ⟨[], [], [], [], none⟩ 200 44 [rI x0] [] = K_AP x0 (fun (d : Int) => some (Res.mk (rU d) [] [])) := by kernel_rfl
theorem m_AP {ρ σ : Type} (q : ρ → Option σ) (x0 : Int) (k : (Int) → Option ρ) : (K_AP x0 k).bind q = K_AP x0 (fun d => (k d).bind q) := by
  simp only [K_AP, bnd_cond, bnd_bind, bnd_none, bnd_sum]
theorem qa_AP : ∀ b, (QA_AP).em b = ([rI b.1.1], []) := fun b => by kernel_rfl
theorem e_AP {f : (Int) → Option (Int)} {args : List AV} {h : List Blk} {r : Res} (hr : (F_AP f args h).eval = some r) : ∃ x0, args = [rI x0] ∧ h = [] ∧ (f x0).bind (fun (d : Int) => some (Res.mk (rU d) [] [])) = some r := by
  unfold F_AP at hr
  split at hr
  · rename_i b hb
    have e := ((QA_AP).ok _ _ hb).trans (qa_AP b)
    rw [opt_eval2] at hr
    exact ⟨b.1.1, (Prod.mk.inj e).1, (Prod.mk.inj e).2, hr⟩
  · cases hr
theorem n_AP {σ : Type} (q : (Int) → Option σ) (x0 : Int) : (f_AP x0).bind q = K_AP x0 q := by
  unfold f_AP
  exact m_AP q x0 some
theorem s_AP [Amb] : Sound Try.prog 44 (F_AP f_AP) := (inl_sound (l := []) (.nil _) mixed [] [] 200 (by kernel_rfl)).by (F := F_AP f_AP) fun args b r hr => by
  obtain ⟨x0, rfl, rfl, hr1⟩ := e_AP hr
  exact inl_eval ((d_AP x0).trans ((n_AP (fun (d : Int) => some (Res.mk (rU d) [] [])) x0).symm.trans hr1))

def K_Al {ρ : Type} (x0 : Int) (x1 : Int) (k : (Int × Int) → Option ρ) : Option ρ := k (IntKind.wrap .u64 (IntKind.wrap .u64 (IntKind.wrap .u64 (Int.fdiv x0 4294967296 * Int.fdiv x1 4294967296) + Int.fdiv (IntKind.wrap .u64 (IntKind.wrap .u64 (Int.fdiv x0 4294967296 * IntKind.wrap .u64 (Int.ofNat (BitVec.toNat (BitVec.ofInt 64 x1 &&& BitVec.ofInt 64 4294967295)))) + Int.fdiv (IntKind.wrap .u64 (IntKind.wrap .u64 (Int.ofNat (BitVec.toNat (BitVec.ofInt 64 x0 &&& BitVec.ofInt 64 4294967295))) * IntKind.wrap .u64 (Int.ofNat (BitVec.toNat (BitVec.ofInt 64 x1 &&& BitVec.ofInt 64 4294967295))))) 4294967296)) 4294967296) + Int.fdiv (IntKind.wrap .u64 (IntKind.wrap .u64 (IntKind.wrap .u64 (Int.ofNat (BitVec.toNat (BitVec.ofInt 64 x0 &&& BitVec.ofInt 64 4294967295))) * Int.fdiv x1 4294967296) + IntKind.wrap .u64 (Int.ofNat (BitVec.toNat (BitVec.ofInt 64 (IntKind.wrap .u64 (IntKind.wrap .u64 (Int.fdiv x0 4294967296 * IntKind.wrap .u64 (Int.ofNat (BitVec.toNat (BitVec.ofInt 64 x1 &&& BitVec.ofInt 64 4294967295)))) + Int.fdiv (IntKind.wrap .u64 (IntKind.wrap .u64 (Int.ofNat (BitVec.toNat (BitVec.ofInt 64 x0 &&& BitVec.ofInt 64 4294967295))) * IntKind.wrap .u64 (Int.ofNat (BitVec.toNat (BitVec.ofInt 64 x1 &&& BitVec.ofInt 64 4294967295))))) 4294967296)) &&& BitVec.ofInt 64 4294967295))))) 4294967296),
 IntKind.wrap .u64 (Int.ofNat (BitVec.toNat (BitVec.ofInt 64 (IntKind.wrap .u64 (IntKind.wrap .u64 (IntKind.wrap .u64 (IntKind.wrap .u64 (Int.ofNat (BitVec.toNat (BitVec.ofInt 64 x0 &&& BitVec.ofInt 64 4294967295))) * Int.fdiv x1 4294967296) + IntKind.wrap .u64 (Int.ofNat (BitVec.toNat (BitVec.ofInt 64 (IntKind.wrap .u64 (IntKind.wrap .u64 (Int.fdiv x0 4294967296 * IntKind.wrap .u64 (Int.ofNat (BitVec.toNat (BitVec.ofInt 64 x1 &&& BitVec.ofInt 64 4294967295)))) + Int.fdiv (IntKind.wrap .u64 (IntKind.wrap .u64 (Int.ofNat (BitVec.toNat (BitVec.ofInt 64 x0 &&& BitVec.ofInt 64 4294967295))) * IntKind.wrap .u64 (Int.ofNat (BitVec.toNat (BitVec.ofInt 64 x1 &&& BitVec.ofInt 64 4294967295))))) 4294967296)) &&& BitVec.ofInt 64 4294967295)))) * 4294967296)) ||| BitVec.ofInt 64 (IntKind.wrap .u64 (Int.ofNat (BitVec.toNat (BitVec.ofInt 64 (IntKind.wrap .u64 (IntKind.wrap .u64 (Int.ofNat (BitVec.toNat (BitVec.ofInt 64 x0 &&& BitVec.ofInt 64 4294967295))) * IntKind.wrap .u64 (Int.ofNat (BitVec.toNat (BitVec.ofInt 64 x1 &&& BitVec.ofInt 64 4294967295))))) &&& BitVec.ofInt 64 4294967295))))))))
def f_Al (x0 : Int) (x1 : Int) : Option (Int × Int) := K_Al x0 x1 some
section
open Go.Ab.Rdr
def QA_Al := ((pair (cons (ar (rc (cf (fi .u64 hole)))) (cons (ar (rc (cf (fi .u64 hole)))) nil)) nil) : Rdr (List AV × List Blk) _)
end
def F_Al (f : (Int) → (Int) → Option (Int × Int)) : Sem1 := fun args h => match (QA_Al).rd (args, h) with
  | some b => .opt (f b.1.1 b.1.2.1) fun (d : Int × Int) => .leaf (Res.mk (AV.tup [RV.c (CV.f (FV.i .u64 d.1)), RV.c (CV.f (FV.i .u64 d.2))]) [] [])
  | none => .fail
theorem d_Al (x0 : Int) (x1 : Int) : den Try.prog (envOf []) ⟨[], [], [], [], none⟩ 200 65 [rU x0, rU x1] [] = K_Al x0 x1 (fun (d : Int × Int) => some (Res.mk (AV.tup [RV.c (CV.f (FV.i .u64 d.1)), RV.c (CV.f (FV.i .u64 d.2))]) [] [])) := by kernel_rfl
theorem m_Al {ρ σ : Type} (q : ρ → Option σ) (x0 : Int) (x1 : Int) (k : (Int × Int) → Option ρ) : (K_Al x0 x1 k).bind q = K_Al x0 x1 (fun d => (k d).bind q) := by
  simp only [K_Al, bnd_cond, bnd_bind, bnd_none, bnd_sum]
theorem qa_Al : ∀ b, (QA_Al).em b = ([rU b.1.1, rU b.1.2.1], []) := fun b => by kernel_rfl
theorem e_Al {f : (Int) → (Int) → Option (Int × Int)} {args : List AV} {h : List Blk} {r : Res} (hr : (F_Al f args h).eval = some r) : ∃ x0 x1, args = [rU x0, rU x1] ∧ h = [] ∧ (f x0 x1).bind (fun (d : Int × Int) => some (Res.mk (AV.tup [RV.c (CV.f (FV.i .u64 d.1)), RV.c (CV.f (FV.i .u64 d.2))]) [] [])) = some r := by
  unfold F_Al at hr
  split at hr
  · rename_i b hb
    have e := ((QA_Al).ok _ _ hb).trans (qa_Al b)
    rw [opt_eval2] at hr
    exact ⟨b.1.1, b.1.2.1, (Prod.mk.inj e).1, (Prod.mk.inj e).2, hr⟩
  · cases hr
theorem n_Al {σ : Type} (q : (Int × Int) → Option σ) (x0 : Int) (x1 : Int) : (f_Al x0 x1).bind q = K_Al x0 x1 q := by
  unfold f_Al
  exact m_Al q x0 x1 some
theorem s_Al [Amb] : Sound Try.prog 65 (F_Al f_Al) := (inl_sound (l := []) (.nil _) mixed [] [] 200 (by kernel_rfl)).by (F := F_Al f_Al) fun args b r hr => by
  obtain ⟨x0, x1, rfl, rfl, hr1⟩ := e_Al hr
  exact inl_eval ((d_Al x0 x1).trans ((n_Al (fun (d : Int × Int) => some (Res.mk (AV.tup [RV.c (CV.f (FV.i .u64 d.1)), RV.c (CV.f (FV.i .u64 d.2))]) [] [])) x0 x1).symm.trans hr1))

def K_BG {ρ : Type} (g_AP : t3GNR) (g_Al : t4GNR) (x0 : Int) (x1 : Int) (k : (Int × Int × Bool) → Option ρ) : Option ρ := Option.bind (g_AP x0) fun (d : Int) => Option.bind (g_AP x1) fun (d_1 : Int) => Option.bind (g_Al d d_1) fun (d : Int × Int) => k (d.1, d.2, !decide (x0 < 0) == decide (x1 < 0))
def f_BG (x0 : Int) (x1 : Int) : Option (Int × Int × Bool) := K_BG f_AP f_Al x0 x1 some
section
open Go.Ab.Rdr
def QA_BG := ((pair (cons (ar (rc (cf (fi .i64 hole)))) (cons (ar (rc (cf (fi .i64 hole)))) nil)) nil) : Rdr (List AV × List Blk) _)
end
def F_BG (f : (Int) → (Int) → Option (Int × Int × Bool)) : Sem1 := fun args h => match (QA_BG).rd (args, h) with
  | some b => .opt (f b.1.1 b.1.2.1) fun (d : Int × Int × Bool) => .leaf (Res.mk (AV.r (RV.agg [sU d.1, sU d.2.1, sB d.2.2])) [] [])
  | none => .fail
theorem d_BG (g_AP : t3GNR) (g_Al : t4GNR) (x0 : Int) (x1 : Int) : den Try.prog (envOf [(44, F_AP g_AP), (65, F_Al g_Al)]) ⟨[], [], [], [], none⟩ 200 40 [rI x0, rI x1] [] = K_BG g_AP g_Al x0 x1 (fun (d : Int × Int × Bool) => some (Res.mk (AV.r (RV.agg [sU d.1,
 sU d.2.1, sB d.2.2])) [] [])) := by kernel_rfl
theorem m_BG {ρ σ : Type} (q : ρ → Option σ) (g_AP : t3GNR) (g_Al : t4GNR) (x0 : Int) (x1 : Int) (k : (Int × Int × Bool) → Option ρ) : (K_BG g_AP g_Al x0 x1 k).bind q = K_BG g_AP g_Al x0 x1 (fun d => (k d).bind q) := by
  simp only [K_BG, bnd_cond, bnd_bind, bnd_none, bnd_sum]
theorem qa_BG : ∀ b, (QA_BG).em b = ([rI b.1.1, rI b.1.2.1], []) := fun b => by kernel_rfl
theorem e_BG {f : (Int) → (Int) → Option (Int × Int × Bool)} {args : List AV} {h : List Blk} {r : Res} (hr : (F_BG f args h).eval = some r) : ∃ x0 x1, args = [rI x0, rI x1] ∧ h = [] ∧ (f x0 x1).bind (fun (d : Int × Int × Bool) => some (Res.mk (AV.r (RV.agg [sU d.1, sU d.2.1, sB d.2.2])) [] [])) = some r := by
  unfold F_BG at hr
  split at hr
  · rename_i b hb
    have e := ((QA_BG).ok _ _ hb).trans (qa_BG b)
    rw [opt_eval2] at hr
    exact ⟨b.1.1, b.1.2.1, (Prod.mk.inj e).1, (Prod.mk.inj e).2, hr⟩
  · cases hr
theorem n_BG {σ : Type} (q : (Int × Int × Bool) → Option σ) (x0 : Int) (x1 : Int) : (f_BG x0 x1).bind q = K_BG f_AP f_Al x0 x1 q := by
  unfold f_BG
  exact m_BG q f_AP f_Al x0 x1 some
theorem s_BG [Amb] : Sound Try.prog 40 (F_BG f_BG) := (inl_sound (l := [(44, F_AP f_AP), (65, F_Al f_Al)]) (.cons s_AP (.cons s_Al (.nil _))) mixed [] [] 200 (by kernel_rfl)).by (F := F_BG f_BG) fun args b r hr => by
  obtain ⟨x0, x1, rfl, rfl, hr1⟩ := e_BG hr
  exact inl_eval ((d_BG f_AP f_Al x0 x1).trans ((n_BG (fun (d : Int × Int × Bool) => some (Res.mk (AV.r (RV.agg [sU d.1, sU d.2.1, sB d.2.2])) [] [])) x0 x1).symm.trans hr1))

def K_Ao {ρ : Type} (x0 : Int) (x1 : Int) (x2 : Bool) (x3 : Int) (x4 : Int) (x5 : Bool) (k : (Bool) → Option ρ) : Option ρ := bif decide (x0 < x3) then k true else bif x0 == x3 then k (decide (x1 < x4)) else k false
def f_Ao (x0 : Int) (x1 : Int) (x2 : Bool) (x3 : Int) (x4 : Int) (x5 : Bool) : Option (Bool) := K_Ao x0 x1 x2 x3 x4 x5 some
section
open Go.Ab.Rdr
def QA_Ao := ((pair (cons (ar (ra (cons (gc (cf (fi .u64 hole))) (cons (gc (cf (fi .u64 hole))) (cons (gc (cf (fb hole))) nil))))) (cons (ar (ra (cons (gc (cf (fi .u64 hole))) (cons (gc (cf (fi .u64 hole))) (cons (gc (cf (fb hole))) nil))))) nil)) nil) : Rdr (List AV × List Blk) _)
end
def F_Ao (f : (Int) → (Int) → (Bool) → (Int) → (Int) → (Bool) → Option (Bool)) : Sem1 := fun args h => match (QA_Ao).rd (args, h) with
  | some b => .opt (f b.1.1.1 b.1.1.2.1 b.1.1.2.2.1 b.1.2.1.1 b.1.2.1.2.1 b.1.2.1.2.2.1) fun (d : Bool) => .leaf (Res.mk (rB d) [] [])
  | none => .fail
theorem d_Ao (x0 : Int) (x1 : Int) (x2 : Bool) (x3 : Int) (x4 : Int) (x5 : Bool) : den Try.prog (envOf []) ⟨[], [], [], [], none⟩ 200 85 [.r (.agg [.c (.f (.i .u64 x0)), .c (.f (.i .u64 x1)), .c (.f (.b x2))]), .r (.agg [.c (.f (.i .u64 x3)), .c (.f (.i .u64 x4)), .c (.f (.b x5))])] [] = K_Ao x0 x1 x2 x3 x4 x5 (fun (d : Bool) => some (Res.mk (rB d) [] [])) := by kernel_rfl
theorem m_Ao {ρ σ : Type} (q : ρ → Option σ) (x0 : Int) (x1 : Int) (x2 : Bool) (x3 : Int) (x4 : Int) (x5 : Bool) (k : (Bool) → Option ρ) : (K_Ao x0 x1 x2 x3 x4 x5 k).bind q = K_Ao x0 x1 x2 x3 x4 x5 (fun d => (k d).bind q) := by
  simp only [K_Ao, bnd_cond, bnd_bind, bnd_none, bnd_sum]
theorem qa_Ao : ∀ b, (QA_Ao).em b = ([.r (.agg [.c (.f (.i .u64 b.1.1.1)), .c (.f (.i .u64 b.1.1.2.1)), .c (.f (.b b.1.1.2.2.1))]), .r (.agg [.c (.f (.i .u64 b.1.2.1.1)), .c (.f (.i .u64 b.1.2.1.2.1)), .c (.f (.b b.1.2.1.2.2.1))])], []) := fun b => by kernel_rfl
theorem e_Ao {f : (Int) → (Int) → (Bool) → (Int) → (Int) → (Bool) → Option (Bool)} {args : List AV} {h : List Blk} {r : Res} (hr : (F_Ao f args h).eval = some r) : ∃ x0 x1 x2 x3 x4 x5, args = [.r (.agg [.c (.f (.i .u64 x0)), .c (.f (.i .u64 x1)), .c (.f (.b x2))]), .r (.agg [.c (.f (.i .u64 x3)), .c (.f (.i .u64 x4)), .c (.f (.b x5))])] ∧ h = [] ∧ (f x0 x1 x2 x3 x4 x5).bind (fun (d : Bool) => some (Res.mk (rB d) [] [])) = some r := by
  unfold F_Ao at hr
  split at hr
  · rename_i b hb
    have e := ((QA_Ao).ok _ _ hb).trans (qa_Ao b)
    rw [opt_eval2] at hr
    exact ⟨b.1.1.1, b.1.1.2.1, b.1.1.2.2.1, b.1.2.1.1, b.1.2.1.2.1, b.1.2.1.2.2.1, (Prod.mk.inj e).1, (Prod.mk.inj e).2, hr⟩
  · cases hr
theorem n_Ao {σ : Type} (q : (Bool) → Option σ) (x0 : Int) (x1 : Int) (x2 : Bool) (x3 : Int) (x4 : Int) (x5 : Bool) : (f_Ao x0 x1 x2 x3 x4 x5).bind q = K_Ao x0 x1 x2 x3 x4 x5 q := by
  unfold f_Ao
  exact m_Ao q x0 x1 x2 x3 x4 x5 some
theorem s_Ao [Amb] : Sound Try.prog 85 (F_Ao f_Ao) := (inl_sound (l := []) (.nil _) mixed [] [] 200 (by kernel_rfl)).by (F := F_Ao f_Ao) fun args b r hr => by
  obtain ⟨x0, x1, x2, x3, x4, x5, rfl, rfl, hr1⟩ := e_Ao hr
  exact inl_eval ((d_Ao x0 x1 x2 x3 x4 x5).trans ((n_Ao (fun (d : Bool) => some (Res.mk (rB d) [] [])) x0 x1 x2 x3 x4 x5).symm.trans hr1))

def K_AG {ρ : Type} (g_Ao : t5GNR) (x0 : Int) (x1 : Int) (x2 : Bool) (x3 : Int) (x4 : Int) (x5 : Bool) (k : (Int × Int × Bool) → Option ρ) : Option ρ := bif x2 == x5 then bif decide (IntKind.wrap .u64 (x1 + x4) < x1) then k (IntKind.wrap .u64 (IntKind.wrap .u64 (x0 + x3) + 1),
 IntKind.wrap .u64 (x1 + x4), x2) else k (IntKind.wrap .u64 (x0 + x3), IntKind.wrap .u64 (x1 + x4), x2) else Option.bind (g_Ao x0 x1 x2 x3 x4 x5) fun (d : Bool) => bif d then bif decide (x4 < x1) then k (IntKind.wrap .u64 (IntKind.wrap .u64 (x3 - x0) - 1), IntKind.wrap .u64 (x4 - x1),
 x5) else k (IntKind.wrap .u64 (x3 - x0), IntKind.wrap .u64 (x4 - x1), x5) else bif decide (x1 < x4) then k (IntKind.wrap .u64 (IntKind.wrap .u64 (x0 - x3) - 1), IntKind.wrap .u64 (x1 - x4), x2) else k (IntKind.wrap .u64 (x0 - x3), IntKind.wrap .u64 (x1 - x4),
 x2)
def f_AG (x0 : Int) (x1 : Int) (x2 : Bool) (x3 : Int) (x4 : Int) (x5 : Bool) : Option (Int × Int × Bool) := K_AG f_Ao x0 x1 x2 x3 x4 x5 some
section
open Go.Ab.Rdr
def QA_AG := ((pair (cons (ar (ra (cons (gc (cf (fi .u64 hole))) (cons (gc (cf (fi .u64 hole))) (cons (gc (cf (fb hole))) nil))))) (cons (ar (ra (cons (gc (cf (fi .u64 hole))) (cons (gc (cf (fi .u64 hole))) (cons (gc (cf (fb hole))) nil))))) nil)) nil) : Rdr (List AV × List Blk) _)
end
def F_AG (f : (Int) → (Int) → (Bool) → (Int) → (Int) → (Bool) → Option (Int × Int × Bool)) : Sem1 := fun args h => match (QA_AG).rd (args, h) with
  | some b => .opt (f b.1.1.1 b.1.1.2.1 b.1.1.2.2.1 b.1.2.1.1 b.1.2.1.2.1 b.1.2.1.2.2.1) fun (d : Int × Int × Bool) => .leaf (Res.mk (AV.r (RV.agg [sU d.1, sU d.2.1, sB d.2.2])) [] [])
  | none => .fail
theorem d_AG (g_Ao : t5GNR) (x0 : Int) (x1 : Int) (x2 : Bool) (x3 : Int) (x4 : Int) (x5 : Bool) : den Try.prog (envOf [(85, F_Ao g_Ao)]) ⟨[], [], [], [], none⟩ 200 66 [.r (.agg [.c (.f (.i .u64 x0)), .c (.f (.i .u64 x1)), .c (.f (.b x2))]), .r (.agg [.c (.f (.i .u64 x3)),
 .c (.f (.i .u64 x4)), .c (.f (.b x5))])] [] = K_AG g_Ao x0 x1 x2 x3 x4 x5 (fun (d : Int × Int × Bool) => some (Res.mk (AV.r (RV.agg [sU d.1, sU d.2.1, sB d.2.2])) [] [])) := by kernel_rfl
theorem m_AG {ρ σ : Type} (q : ρ → Option σ) (g_Ao : t5GNR) (x0 : Int) (x1 : Int) (x2 : Bool) (x3 : Int) (x4 : Int) (x5 : Bool) (k : (Int × Int × Bool) → Option ρ) : (K_AG g_Ao x0 x1 x2 x3 x4 x5 k).bind q = K_AG g_Ao x0 x1 x2 x3 x4 x5 (fun d => (k d).bind q) := by
  simp only [K_AG, bnd_cond, bnd_bind, bnd_none, bnd_sum]
theorem qa_AG : ∀ b, (QA_AG).em b = ([.r (.agg [.c (.f (.i .u64 b.1.1.1)), .c (.f (.i .u64 b.1.1.2.1)), .c (.f (.b b.1.1.2.2.1))]), .r (.agg [.c (.f (.i .u64 b.1.2.1.1)), .c (.f (.i .u64 b.1.2.1.2.1)), .c (.f (.b b.1.2.1.2.2.1))])], []) := fun b => by kernel_rfl
theorem e_AG {f : (Int) → (Int) → (Bool) → (Int) → (Int) → (Bool) → Option (Int × Int × Bool)} {args : List AV} {h : List Blk} {r : Res} (hr : (F_AG f args h).eval = some r) : ∃ x0 x1 x2 x3 x4 x5, args = [.r (.agg [.c (.f (.i .u64 x0)), .c (.f (.i .u64 x1)), .c (.f (.b x2))]), .r (.agg [.c (.f (.i .u64 x3)), .c (.f (.i .u64 x4)), .c (.f (.b x5))])] ∧ h = [] ∧ (f x0 x1 x2 x3 x4 x5).bind (fun (d : Int × Int × Bool) => some (Res.mk (AV.r (RV.agg [sU d.1, sU d.2.1, sB d.2.2])) [] [])) = some r := by
  unfold F_AG at hr
  split at hr
  · rename_i b hb
    have e := ((QA_AG).ok _ _ hb).trans (qa_AG b)
    rw [opt_eval2] at hr
    exact ⟨b.1.1.1, b.1.1.2.1, b.1.1.2.2.1, b.1.2.1.1, b.1.2.1.2.1, b.1.2.1.2.2.1, (Prod.mk.inj e).1, (Prod.mk.inj e).2, hr⟩
  · cases hr
theorem n_AG {σ : Type} (q : (Int × Int × Bool) → Option σ) (x0 : Int) (x1 : Int) (x2 : Bool) (x3 : Int) (x4 : Int) (x5 : Bool) : (f_AG x0 x1 x2 x3 x4 x5).bind q = K_AG f_Ao x0 x1 x2 x3 x4 x5 q := by
  unfold f_AG
  exact m_AG q f_Ao x0 x1 x2 x3 x4 x5 some
theorem s_AG [Amb] : Sound Try.prog 66 (F_AG f_AG) := (inl_sound (l := [(85, F_Ao f_Ao)]) (.cons s_Ao (.nil _)) mixed [] [] 200 (by kernel_rfl)).by (F := F_AG f_AG) fun args b r hr => by
  obtain ⟨x0, x1, x2, x3, x4, x5, rfl, rfl, hr1⟩ := e_AG hr
  exact inl_eval ((d_AG f_Ao x0 x1 x2 x3 x4 x5).trans ((n_AG (fun (d : Int × Int × Bool) => some (Res.mk (AV.r (RV.agg [sU d.1, sU d.2.1, sB d.2.2])) [] [])) x0 x1 x2 x3 x4 x5).symm.trans hr1))

def S_AH_0 {ρ : Type} (g_AG : t6GNR) (x0 : Int) (x1 : Int) (x2 : Int) (x3 : Int) (x4 : Int) (x5 : Bool) (x6 : Int) (x7 : Int) (x8 : Bool) (c : (Int × Int × Int × Int × Int × Bool × Int × Int × Bool) → Option ρ) (x : (Int × Int × Int × Bool × Int ×
 Int × Bool × Int × Int × Bool) → Option ρ) : Option ρ := bif decide (x2 ≥ 0) then bif !decide (IntKind.wrap .u64 (IntKind.wrap .i64 (Int.ofNat (BitVec.toNat (BitVec.ofInt 64 x2 &&& BitVec.ofInt 64 63)))) < 0) then bif decide (x2 ≥ 64) then bif !decide (IntKind.wrap .u64 (IntKind.wrap .i64 (Int.ofNat (BitVec.toNat (BitVec.ofInt 64 x2 &&& BitVec.ofInt 64 63)))) < 0) then
 bif decide (IntKind.wrap .u64 (Int.ofNat (BitVec.toNat (BitVec.ofInt 64 (IntKind.wrap .u64 (x1 * 2)) ||| BitVec.ofInt 64 (IntKind.wrap .u64 (Int.ofNat (BitVec.toNat (BitVec.ofInt 64 (Int.fdiv x3 (2 ^ min (Int.toNat (IntKind.wrap .u64 (IntKind.wrap .i64 (Int.ofNat (BitVec.toNat (BitVec.ofInt 64 x2 &&& BitVec.ofInt 64 63)))))) 64)) &&& BitVec.ofInt 64 1))))))) ≥ x0) then
 bif decide (x2 ≥ 64) then bif !decide (IntKind.wrap .u64 (IntKind.wrap .i64 (Int.ofNat (BitVec.toNat (BitVec.ofInt 64 x2 &&& BitVec.ofInt 64 63)))) < 0) then c (x0, IntKind.wrap .u64 (IntKind.wrap .u64 (Int.ofNat (BitVec.toNat (BitVec.ofInt 64 (IntKind.wrap .u64 (x1 * 2)) ||| BitVec.ofInt 64 (IntKind.wrap .u64 (Int.ofNat (BitVec.toNat (BitVec.ofInt 64 (Int.fdiv x3 (2 ^ min (Int.toNat (IntKind.wrap .u64 (IntKind.wrap .i64 (Int.ofNat (BitVec.toNat (BitVec.ofInt 64 x2 &&& BitVec.ofInt 64 63)))))) 64)) &&& BitVec.ofInt 64 1))))))) - x0),
 IntKind.wrap .i64 (x2 - 1), x3, x4, x5, IntKind.wrap .u64 (Int.ofNat (BitVec.toNat (BitVec.ofInt 64 x6 ||| BitVec.ofInt 64 (IntKind.wrap .u64 (1 * 2 ^ min (Int.toNat (IntKind.wrap .u64 (IntKind.wrap .i64 (Int.ofNat (BitVec.toNat (BitVec.ofInt 64 x2 &&& BitVec.ofInt 64 63)))))) 64))))),
 x7, x8) else none else bif !decide (IntKind.wrap .u64 (IntKind.wrap .i64 (Int.ofNat (BitVec.toNat (BitVec.ofInt 64 x2 &&& BitVec.ofInt 64 63)))) < 0) then c (x0, IntKind.wrap .u64 (IntKind.wrap .u64 (Int.ofNat (BitVec.toNat (BitVec.ofInt 64 (IntKind.wrap .u64 (x1 * 2)) ||| BitVec.ofInt 64 (IntKind.wrap .u64 (Int.ofNat (BitVec.toNat (BitVec.ofInt 64 (Int.fdiv x3 (2 ^ min (Int.toNat (IntKind.wrap .u64 (IntKind.wrap .i64 (Int.ofNat (BitVec.toNat (BitVec.ofInt 64 x2 &&& BitVec.ofInt 64 63)))))) 64)) &&& BitVec.ofInt 64 1))))))) - x0),
 IntKind.wrap .i64 (x2 - 1), x3, x4, x5, x6, IntKind.wrap .u64 (Int.ofNat (BitVec.toNat (BitVec.ofInt 64 x7 ||| BitVec.ofInt 64 (IntKind.wrap .u64 (1 * 2 ^ min (Int.toNat (IntKind.wrap .u64 (IntKind.wrap .i64 (Int.ofNat (BitVec.toNat (BitVec.ofInt 64 x2 &&& BitVec.ofInt 64 63)))))) 64))))),
 x8) else none else c (x0, IntKind.wrap .u64 (Int.ofNat (BitVec.toNat (BitVec.ofInt 64 (IntKind.wrap .u64 (x1 * 2)) ||| BitVec.ofInt 64 (IntKind.wrap .u64 (Int.ofNat (BitVec.toNat (BitVec.ofInt 64 (Int.fdiv x3 (2 ^ min (Int.toNat (IntKind.wrap .u64 (IntKind.wrap .i64 (Int.ofNat (BitVec.toNat (BitVec.ofInt 64 x2 &&& BitVec.ofInt 64 63)))))) 64)) &&& BitVec.ofInt 64 1))))))),
 IntKind.wrap .i64 (x2 - 1), x3, x4, x5, x6, x7, x8) else none else bif decide (IntKind.wrap .u64 (Int.ofNat (BitVec.toNat (BitVec.ofInt 64 (IntKind.wrap .u64 (x1 * 2)) ||| BitVec.ofInt 64 (IntKind.wrap .u64 (Int.ofNat (BitVec.toNat (BitVec.ofInt 64 (Int.fdiv x4 (2 ^ min (Int.toNat (IntKind.wrap .u64 (IntKind.wrap .i64 (Int.ofNat (BitVec.toNat (BitVec.ofInt 64 x2 &&& BitVec.ofInt 64 63)))))) 64)) &&& BitVec.ofInt 64 1))))))) ≥ x0) then
 bif decide (x2 ≥ 64) then bif !decide (IntKind.wrap .u64 (IntKind.wrap .i64 (Int.ofNat (BitVec.toNat (BitVec.ofInt 64 x2 &&& BitVec.ofInt 64 63)))) < 0) then c (x0, IntKind.wrap .u64 (IntKind.wrap .u64 (Int.ofNat (BitVec.toNat (BitVec.ofInt 64 (IntKind.wrap .u64 (x1 * 2)) ||| BitVec.ofInt 64 (IntKind.wrap .u64 (Int.ofNat (BitVec.toNat (BitVec.ofInt 64 (Int.fdiv x4 (2 ^ min (Int.toNat (IntKind.wrap .u64 (IntKind.wrap .i64 (Int.ofNat (BitVec.toNat (BitVec.ofInt 64 x2 &&& BitVec.ofInt 64 63)))))) 64)) &&& BitVec.ofInt 64 1))))))) - x0),
 IntKind.wrap .i64 (x2 - 1), x3, x4, x5, IntKind.wrap .u64 (Int.ofNat (BitVec.toNat (BitVec.ofInt 64 x6 ||| BitVec.ofInt 64 (IntKind.wrap .u64 (1 * 2 ^ min (Int.toNat (IntKind.wrap .u64 (IntKind.wrap .i64 (Int.ofNat (BitVec.toNat (BitVec.ofInt 64 x2 &&& BitVec.ofInt 64 63)))))) 64))))),
 x7, x8) else none else bif !decide (IntKind.wrap .u64 (IntKind.wrap .i64 (Int.ofNat (BitVec.toNat (BitVec.ofInt 64 x2 &&& BitVec.ofInt 64 63)))) < 0) then c (x0, IntKind.wrap .u64 (IntKind.wrap .u64 (Int.ofNat (BitVec.toNat (BitVec.ofInt 64 (IntKind.wrap .u64 (x1 * 2)) ||| BitVec.ofInt 64 (IntKind.wrap .u64 (Int.ofNat (BitVec.toNat (BitVec.ofInt 64 (Int.fdiv x4 (2 ^ min (Int.toNat (IntKind.wrap .u64 (IntKind.wrap .i64 (Int.ofNat (BitVec.toNat (BitVec.ofInt 64 x2 &&& BitVec.ofInt 64 63)))))) 64)) &&& BitVec.ofInt 64 1))))))) - x0),
 IntKind.wrap .i64 (x2 - 1), x3, x4, x5, x6, IntKind.wrap .u64 (Int.ofNat (BitVec.toNat (BitVec.ofInt 64 x7 ||| BitVec.ofInt 64 (IntKind.wrap .u64 (1 * 2 ^ min (Int.toNat (IntKind.wrap .u64 (IntKind.wrap .i64 (Int.ofNat (BitVec.toNat (BitVec.ofInt 64 x2 &&& BitVec.ofInt 64 63)))))) 64))))),
 x8) else none else c (x0, IntKind.wrap .u64 (Int.ofNat (BitVec.toNat (BitVec.ofInt 64 (IntKind.wrap .u64 (x1 * 2)) ||| BitVec.ofInt 64 (IntKind.wrap .u64 (Int.ofNat (BitVec.toNat (BitVec.ofInt 64 (Int.fdiv x4 (2 ^ min (Int.toNat (IntKind.wrap .u64 (IntKind.wrap .i64 (Int.ofNat (BitVec.toNat (BitVec.ofInt 64 x2 &&& BitVec.ofInt 64 63)))))) 64)) &&& BitVec.ofInt 64 1))))))),
 IntKind.wrap .i64 (x2 - 1), x3, x4, x5, x6, x7, x8) else none else x (x0, x1, x2, decide (x2 ≥ 0), x3, x4, x5, x6, x7, x8)
section
open Go.Ab.Rdr
def Q_AH_0 := (st (cons aund (cons (ar (rc (cf (fi .u64 hole)))) (cons (ar (rc (cptr (nat 0) (ok' (nat 0)) (nat 3)))) (cons aund (cons (ar (rc (cptr (nat 1) (ok' (nat 0)) (nat 3)))) (cons (ar (rc (cptr (nat 2) (ok' (nat 0)) (nat 3)))) (cons (ar (rc (cf (fi .u64 hole)))) (cons (ar (rc (cf (fi .i64 hole)))) (cons aund (cons aund (cons aund (cons aund (cons aund (cons aund (cons aund (cons aund (cons aund (cons aund (cons aund (cons aund (cons aund (cons aund (cons aund (cons aund (cons aund (cons aund (cons aund (cons aund (cons aund (cons aund (cons aund (cons aund (cons aund (cons aund (cons aund (cons aund (cons aund (cons aund (cons aund (cons aund (cons aund (cons aund (cons aund (cons aund (cons aund (cons aund (cons aund (cons aund (cons aund (cons aund (cons aund (cons aund (cons aund (cons aund (cons aund (cons aund (cons aund (cons aund (cons aund (cons aund (cons aund (cons aund (cons aund (cons aund (cons aund (cons aund (cons aund (cons aund (cons aund (cons aund (cons aund nil))))))))))))))))))))))))))))))))))))))))))))))))))))))))))))))))))))))) (cons (some' (cons (gc (cf (fi .u64 hole))) (cons (gc (cf (fi .u64 hole))) (cons (gc (cf (fb hole))) nil)))) (cons (some' (cons (gc (cf (fi .u64 (int 0)))) (cons (gc (cf (fi .u64 (int 0)))) (cons (gc (cf (fb (bool false)))) nil)))) (cons (some' (cons (gc (cf (fi .u64 hole))) (cons (gc (cf (fi .u64 hole))) (cons (gc (cf (fb hole))) nil)))) nil))) nil)
end
theorem q_AH_0 : ∀ b, (Q_AH_0).em b = St.mk [un, rU b.1.2.1, AV.r (RV.c (CV.ptr 0 (Off.k 0) 3)), un, AV.r (RV.c (CV.ptr 1 (Off.k 0) 3)), AV.r (RV.c (CV.ptr 2 (Off.k 0) 3)), rU b.1.c4.2.2.1, rI b.1.c4.2.2.2.1,
 un, un, un, un, un, un, un, un, un, un, un, un, un, un, un, un, un, un, un, un, un, un, un, un, un, un, un, un, un, un, un, un, un, un, un, un, un, un,
 un, un, un, un, un, un, un, un, un, un, un, un, un, un, un, un, un, un, un, un, un, un, un, un, un] [some [sU b.2.1.1.1, sU b.2.1.1.2.1, sB b.2.1.1.2.2.1],
 some [sU 0, sU 0, sB false], some [sU b.2.1.2.2.1.1, sU b.2.1.2.2.1.2.1, sB b.2.1.2.2.1.2.2.1]] [] := fun b => by kernel_rfl
def R_AH_0 (l : ∀ {ρ : Type}, (Int × Int × Int × Int × Int × Bool × Int × Int × Bool) → ((Int × Int × Int × Bool × Int × Int × Bool × Int × Int × Bool) → Option ρ) → Option ρ) {ρ : Type} (s : St) (K : AX → St → Option ρ) : Option ρ := ((Q_AH_0).rd s).bind fun b => l (b.1.2.1, b.1.c4.2.2.1, b.1.c4.2.2.2.1,
 b.2.1.1.1, b.2.1.1.2.1, b.2.1.1.2.2.1, b.2.1.2.2.1.1, b.2.1.2.2.1.2.1, b.2.1.2.2.1.2.2.1) (fun d => K (AX.ex 0) (St.mk [un, rU d.1, AV.r (RV.c (CV.ptr 0 (Off.k 0) 3)), un, AV.r (RV.c (CV.ptr 1 (Off.k 0) 3)), AV.r (RV.c (CV.ptr 2 (Off.k 0) 3)), rU d.2.1,
 rI d.2.2.1, un, un, un, un, rI d.2.2.1, rB d.2.2.2.1, un, un, un, un, un, un, un, un, un, un, un, un, un, un, un, un, un, un,
 un, un, un, un, un, un, un, un, un, un, un, un, un, un, un, un, un, un, un, un, un, un, un, un, un, un, un, un, un, un, un, un, un, un, un, un, un, un,
 un] [some [sU d.c4.1, sU d.c4.2.1, sB d.c4.2.2.1], some [sU 0, sU 0, sB false], some [sU d.c4.2.2.2.1, sU d.c8.1,
 sB d.c8.2]] []))
theorem ms_AH_0 {ρ σ : Type} (g_AG : t6GNR) (q : ρ → Option σ) (x0 : Int) (x1 : Int) (x2 : Int) (x3 : Int) (x4 : Int) (x5 : Bool) (x6 : Int) (x7 : Int) (x8 : Bool) (c : (Int × Int × Int × Int × Int × Bool × Int × Int × Bool) → Option ρ) (x : (Int × Int × Int × Bool × Int × Int × Bool × Int × Int × Bool) → Option ρ) : (S_AH_0 g_AG x0 x1 x2 x3 x4 x5 x6 x7 x8 c x).bind q = S_AH_0 g_AG x0 x1 x2 x3 x4 x5 x6 x7 x8 (fun d => (c d).bind q) (fun d => (x d).bind q) := by
  simp only [S_AH_0, bnd_cond, bnd_bind, bnd_none, bnd_sum]
def L_AH_0 {ρ : Type} (d : Int × Int × Int × Int × Int × Bool × Int × Int × Bool) (k : (Int × Int × Int × Bool × Int × Int × Bool × Int × Int × Bool) → Option ρ) : Option ρ := loopK (fun d c x => S_AH_0 f_AG d.1 d.2.1 d.2.2.1 d.2.2.2.1 d.c4.1 d.c4.2.1 d.c4.2.2.1 d.c4.2.2.2.1 d.c8 c x) 200 d k
theorem mL_AH_0 {ρ σ : Type} (q : ρ → Option σ) (d : Int × Int × Int × Int × Int × Bool × Int × Int × Bool) (k : (Int × Int × Int × Bool × Int × Int × Bool × Int × Int × Bool) → Option ρ) : (L_AH_0 d k).bind q = L_AH_0 d fun x => (k x).bind q := loopK_bind q (fun d c x => ms_AH_0 f_AG q d.1 d.2.1 d.2.2.1 d.2.2.2.1 d.c4.1 d.c4.2.1 d.c4.2.2.1 d.c4.2.2.2.1 d.c8 c x) k _ d
theorem ds_AH_0 {ρ : Type} (g_AG : t6GNR) (l_0 : ∀ {ρ : Type}, (Int × Int × Int × Int × Int × Bool × Int × Int × Bool) → ((Int × Int × Int × Bool × Int × Int × Bool × Int × Int × Bool) → Option ρ) → Option ρ) (x0 : Int) (x1 : Int) (x2 : Int) (x3 : Int) (x4 : Int) (x5 : Bool) (x6 : Int) (x7 : Int) (x8 : Bool) (c : St →
 Option ρ) (K : AX → St → Option ρ) : runC Try.prog (envOf [(66, F_AG g_AG)]) ⟨[⟨4, u0GNR, []⟩], [⟨4, 0, @R_AH_0 (@l_0)⟩], [], [], (some ⟨0, u1GNR, []⟩)⟩ (tmpsOf Try.prog 43) 0 200 (loopIn Try.prog 43 4) (St.mk [un, rU x0, AV.r (RV.c (CV.ptr 0 (Off.k 0) 3)), un, AV.r (RV.c (CV.ptr 1 (Off.k 0) 3)), AV.r (RV.c (CV.ptr 2 (Off.k 0) 3)), rU x1,
 rI x2, un, un, un, un, un, un, un, un, un, un, un, un, un, un, un, un, un, un, un, un, un, un, un, un, un, un, un, un, un, un, un, un, un,
 un, un, un, un, un, un, un, un, un, un, un, un, un, un, un, un, un, un, un, un, un, un, un, un, un, un, un, un, un, un] [some [sU x3, sU x4,
 sB x5], some [sU 0, sU 0, sB false], some [sU x6, sU x7, sB x8]] []) (next (fun t => t.head 0 ⟨[⟨4, u0GNR, []⟩], [⟨4, 0, @R_AH_0 (@l_0)⟩], [], [], (some ⟨0, u1GNR, []⟩)⟩ (loopIn Try.prog 43 4)) c K) = S_AH_0 g_AG x0 x1 x2 x3 x4 x5 x6 x7 x8 (fun d => c (St.mk [un,
 rU d.1, AV.r (RV.c (CV.ptr 0 (Off.k 0) 3)), un, AV.r (RV.c (CV.ptr 1 (Off.k 0) 3)), AV.r (RV.c (CV.ptr 2 (Off.k 0) 3)), rU d.2.1, rI d.2.2.1, un, un, un, un, un, un, un,
 un, un, un, un, un, un, un, un, un, un, un, un, un, un, un, un, un, un, un, un, un, un, un, un, un, un, un, un, un, un, un, un, un, un, un, un, un, un,
 un, un, un, un, un, un, un, un, un, un, un, un, un, un, un, un, un, un] [some [sU d.2.2.2.1, sU d.c4.1, sB d.c4.2.1], some [sU 0,
 sU 0, sB false], some [sU d.c4.2.2.1, sU d.c4.2.2.2.1, sB d.c8]] [])) (fun d => K (AX.ex 0) (St.mk [un, rU d.1, AV.r (RV.c (CV.ptr 0 (Off.k 0) 3)),
 un, AV.r (RV.c (CV.ptr 1 (Off.k 0) 3)), AV.r (RV.c (CV.ptr 2 (Off.k 0) 3)), rU d.2.1, rI d.2.2.1, un, un, un, un, rI d.2.2.1, rB d.2.2.2.1, un, un,
 un, un, un, un, un, un, un, un, un, un, un, un, un, un, un, un, un, un, un, un, un, un, un, un, un, un, un, un, un, un, un, un, un, un, un, un, un, un,
 un, un, un, un, un, un, un, un, un, un, un, un, un, un, un, un, un] [some [sU d.c4.1, sU d.c4.2.1, sB d.c4.2.2.1], some [sU 0,
 sU 0, sB false], some [sU d.c4.2.2.2.1, sU d.c8.1, sB d.c8.2]] [])) := by kernel_rfl
theorem it_AH_0 {ρ : Type} (x0 : Int) (x1 : Int) (x2 : Int) (x3 : Int) (x4 : Int) (x5 : Bool) (x6 : Int) (x7 : Int) (x8 : Bool) (K : AX → St → Option ρ) : iter (fun t => t.head 0 ⟨[⟨4, u0GNR, []⟩], [⟨4, 0, @R_AH_0 (@L_AH_0)⟩], [], [], (some ⟨0, u1GNR, []⟩)⟩ (loopIn Try.prog 43 4)) (runC Try.prog (envOf [(66, F_AG f_AG)]) ⟨[⟨4, u0GNR, []⟩], [⟨4, 0, @R_AH_0 (@L_AH_0)⟩], [], [], (some ⟨0, u1GNR, []⟩)⟩ (tmpsOf Try.prog 43) 0 200 (loopIn Try.prog 43 4)) K 200 (St.mk [un, rU x0,
 AV.r (RV.c (CV.ptr 0 (Off.k 0) 3)), un, AV.r (RV.c (CV.ptr 1 (Off.k 0) 3)), AV.r (RV.c (CV.ptr 2 (Off.k 0) 3)), rU x1, rI x2, un, un, un, un, un, un, un, un, un, un, un, un, un,
 un, un, un, un, un, un, un, un, un, un, un, un, un, un, un, un, un, un, un, un, un, un, un, un, un, un, un, un, un, un, un, un, un, un, un, un, un, un,
 un, un, un, un, un, un, un, un, un, un, un, un] [some [sU x3, sU x4, sB x5], some [sU 0, sU 0, sB false], some [sU x6,
 sU x7, sB x8]] []) = L_AH_0 (x0, x1, x2, x3, x4, x5, x6, x7, x8) (fun d => K (AX.ex 0) (St.mk [un, rU d.1, AV.r (RV.c (CV.ptr 0 (Off.k 0) 3)), un, AV.r (RV.c (CV.ptr 1 (Off.k 0) 3)), AV.r (RV.c (CV.ptr 2 (Off.k 0) 3)),
 rU d.2.1, rI d.2.2.1, un, un, un, un, rI d.2.2.1, rB d.2.2.2.1, un, un, un, un, un, un, un, un, un, un, un, un,
 un, un, un, un, un, un, un, un, un, un, un, un, un, un, un, un, un, un, un, un, un, un, un, un, un, un, un, un, un, un, un, un, un, un, un, un, un, un,
 un, un, un, un, un, un, un] [some [sU d.c4.1, sU d.c4.2.1, sB d.c4.2.2.1], some [sU 0, sU 0, sB false], some [sU d.c4.2.2.2.1,
 sU d.c8.1, sB d.c8.2]] [])) := iter_loopX (emb := fun (d : Int × Int × Int × Int × Int × Bool × Int × Int × Bool) => St.mk [un, rU d.1, AV.r (RV.c (CV.ptr 0 (Off.k 0) 3)), un, AV.r (RV.c (CV.ptr 1 (Off.k 0) 3)),
 AV.r (RV.c (CV.ptr 2 (Off.k 0) 3)), rU d.2.1, rI d.2.2.1, un, un, un, un, un, un, un, un, un, un, un, un, un, un, un, un, un, un, un, un, un, un,
 un, un, un, un, un, un, un, un, un, un, un, un, un, un, un, un, un, un, un, un, un, un, un, un, un, un, un, un, un, un, un, un, un, un, un, un, un, un,
 un, un, un] [some [sU d.2.2.2.1, sU d.c4.1, sB d.c4.2.1], some [sU 0, sU 0, sB false], some [sU d.c4.2.2.1,
 sU d.c4.2.2.2.1, sB d.c8]] []) (step := fun d c x => S_AH_0 f_AG d.1 d.2.1 d.2.2.1 d.2.2.2.1 d.c4.1 d.c4.2.1 d.c4.2.2.1 d.c4.2.2.2.1 d.c8 c x) (kx := (fun d => K (AX.ex 0) (St.mk [un, rU d.1,
 AV.r (RV.c (CV.ptr 0 (Off.k 0) 3)), un, AV.r (RV.c (CV.ptr 1 (Off.k 0) 3)), AV.r (RV.c (CV.ptr 2 (Off.k 0) 3)), rU d.2.1, rI d.2.2.1, un, un, un, un, rI d.2.2.1, rB d.2.2.2.1,
 un, un, un, un, un, un, un, un, un, un, un, un, un, un, un, un, un, un, un, un, un, un, un, un, un, un, un, un, un, un, un, un, un, un, un, un, un, un,
 un, un, un, un, un, un, un, un, un, un, un, un, un, un, un, un, un, un, un] [some [sU d.c4.1, sU d.c4.2.1, sB d.c4.2.2.1], some [sU 0,
 sU 0, sB false], some [sU d.c4.2.2.2.1, sU d.c8.1, sB d.c8.2]] []))) (fun d c => ds_AH_0 f_AG (@L_AH_0) d.1 d.2.1 d.2.2.1 d.2.2.2.1 d.c4.1 d.c4.2.1 d.c4.2.2.1 d.c4.2.2.2.1 d.c8 c K) 200 (x0,
 x1, x2, x3, x4, x5, x6, x7, x8)
theorem so_AH_0 [Amb] : ∀ kk, SumOK Try.prog (envOf [(66, F_AG f_AG)]) ⟨[⟨4, u0GNR, []⟩], [⟨4, 0, @R_AH_0 (@L_AH_0)⟩], [], [], (some ⟨0, u1GNR, []⟩)⟩ (tmpsOf Try.prog 43) kk 200 (loopIn Try.prog 43 4) := SumOK.of (id := 4) (k0 := 0) (run := @R_AH_0 (@L_AH_0)) (by kernel_rfl) fun s K r hr => by
    unfold R_AH_0 at hr
    obtain ⟨b, hb, hr1⟩ := Option.bind_eq_some_iff.1 hr
    have e := ((Q_AH_0).ok s b hb).trans (q_AH_0 b)
    subst e
    exact ⟨200, (it_AH_0 b.1.2.1 b.1.c4.2.2.1 b.1.c4.2.2.2.1 b.2.1.1.1 b.2.1.1.2.1 b.2.1.1.2.2.1 b.2.1.2.2.1.1 b.2.1.2.2.1.2.1 b.2.1.2.2.1.2.2.1 K).trans hr1⟩
def K_AH {ρ : Type} (g_AG : t6GNR) (l_0 : ∀ {ρ : Type}, (Int × Int × Int × Int × Int × Bool × Int × Int × Bool) → ((Int × Int × Int × Bool × Int × Int × Bool × Int × Int × Bool) → Option ρ) → Option ρ) (x0 : Int) (x1 : Int) (x2 : Bool) (x3 : Int) (k : (Int ×
 Int × Bool) → Option ρ) : Option ρ := l_0 (x3, 0, 127, x0, x1, x2, 0, 0, x2) fun (d : Int × Int × Int × Bool × Int × Int × Bool × Int × Int × Bool) => bif decide (d.2.1 ≥ IntKind.wrap .u64 (d.1 - d.2.1)) then Option.bind (g_AG d.c4.2.2.2.1 d.c8.1 d.c8.2 0 1 d.c8.2) fun (d : Int ×
 Int × Bool) => k (d.1, d.2.1, d.2.2) else k (d.c4.2.2.2.1, d.c8.1, d.c8.2)
def f_AH (x0 : Int) (x1 : Int) (x2 : Bool) (x3 : Int) : Option (Int × Int × Bool) := K_AH f_AG (@L_AH_0) x0 x1 x2 x3 some
section
open Go.Ab.Rdr
def QA_AH := ((pair (cons (ar (ra (cons (gc (cf (fi .u64 hole))) (cons (gc (cf (fi .u64 hole))) (cons (gc (cf (fb hole))) nil))))) (cons (ar (rc (cf (fi .u64 hole)))) nil)) nil) : Rdr (List AV × List Blk) _)
end
def F_AH (f : (Int) → (Int) → (Bool) → (Int) → Option (Int × Int × Bool)) : Sem1 := fun args h => match (QA_AH).rd (args, h) with
  | some b => .opt (f b.1.1.1 b.1.1.2.1 b.1.1.2.2.1 b.1.2.1) fun (d : Int × Int × Bool) => .leaf (Res.mk (AV.r (RV.agg [sU d.1, sU d.2.1, sB d.2.2])) [] [])
  | none => .fail
theorem d_AH (g_AG : t6GNR) (l_0 : ∀ {ρ : Type}, (Int × Int × Int × Int × Int × Bool × Int × Int × Bool) → ((Int × Int × Int × Bool × Int × Int × Bool × Int × Int × Bool) → Option ρ) → Option ρ) (x0 : Int) (x1 : Int) (x2 : Bool) (x3 : Int) : den Try.prog (envOf [(66,
 F_AG g_AG)]) ⟨[⟨4, u0GNR, []⟩], [⟨4, 0, @R_AH_0 (@l_0)⟩],
 [], [], (some ⟨0, u1GNR, []⟩)⟩ 200 43 [.r (.agg [.c (.f (.i .u64 x0)),
 .c (.f (.i .u64 x1)), .c (.f (.b x2))]), rU x3] [] = K_AH g_AG (@l_0) x0 x1 x2 x3 (fun (d : Int × Int × Bool) => some (Res.mk (AV.r (RV.agg [sU d.1, sU d.2.1, sB d.2.2])) [] [])) := by kernel_rfl
theorem m_AH {ρ σ : Type} (q : ρ → Option σ) (g_AG : t6GNR) (l_0 : ∀ {ρ : Type}, (Int × Int × Int × Int × Int × Bool × Int × Int × Bool) → ((Int × Int × Int × Bool × Int × Int × Bool × Int × Int × Bool) → Option ρ) → Option ρ) (hl_0 : ∀ {ρ σ : Type} (q : ρ → Option σ) (d : Int × Int × Int × Int × Int × Bool × Int × Int × Bool) (k : (Int × Int × Int × Bool × Int × Int × Bool × Int × Int × Bool) → Option ρ), (l_0 d k).bind q = l_0 d fun x => (k x).bind q) (x0 : Int) (x1 : Int) (x2 : Bool) (x3 : Int) (k : (Int × Int × Bool) → Option ρ) : (K_AH g_AG (@l_0) x0 x1 x2 x3 k).bind q = K_AH g_AG (@l_0) x0 x1 x2 x3 (fun d => (k d).bind q) := by
  simp only [K_AH, bnd_cond, bnd_bind, bnd_none, bnd_sum, hl_0]
theorem qa_AH : ∀ b, (QA_AH).em b = ([.r (.agg [.c (.f (.i .u64 b.1.1.1)), .c (.f (.i .u64 b.1.1.2.1)), .c (.f (.b b.1.1.2.2.1))]), rU b.1.2.1], []) := fun b => by kernel_rfl
theorem e_AH {f : (Int) → (Int) → (Bool) → (Int) → Option (Int × Int × Bool)} {args : List AV} {h : List Blk} {r : Res} (hr : (F_AH f args h).eval = some r) : ∃ x0 x1 x2 x3, args = [.r (.agg [.c (.f (.i .u64 x0)), .c (.f (.i .u64 x1)), .c (.f (.b x2))]), rU x3] ∧ h = [] ∧ (f x0 x1 x2 x3).bind (fun (d : Int × Int × Bool) => some (Res.mk (AV.r (RV.agg [sU d.1, sU d.2.1, sB d.2.2])) [] [])) = some r := by
  unfold F_AH at hr
  split at hr
  · rename_i b hb
    have e := ((QA_AH).ok _ _ hb).trans (qa_AH b)
    rw [opt_eval2] at hr
    exact ⟨b.1.1.1, b.1.1.2.1, b.1.1.2.2.1, b.1.2.1, (Prod.mk.inj e).1, (Prod.mk.inj e).2, hr⟩
  · cases hr
theorem n_AH {σ : Type} (q : (Int × Int × Bool) → Option σ) (x0 : Int) (x1 : Int) (x2 : Bool) (x3 : Int) : (f_AH x0 x1 x2 x3).bind q = K_AH f_AG (@L_AH_0) x0 x1 x2 x3 q := by
  unfold f_AH
  exact m_AH q f_AG (@L_AH_0) (fun q d k => mL_AH_0 q d k) x0 x1 x2 x3 some
theorem s_AH [Amb] : Sound Try.prog 43 (F_AH f_AH) := (inl_sums (l := [(66, F_AG f_AG)]) (.cons s_AG (.nil _)) mixed (hs := ⟨[⟨4, u0GNR, []⟩], [⟨4, 0, @R_AH_0 (@L_AH_0)⟩], [], [], (some ⟨0, u1GNR, []⟩)⟩) (lf := 200) (Sums.by (l := [loopIn Try.prog 43 4]) (lj := []) (by kernel_rfl) ⟨so_AH_0, trivial⟩ (by kernel_rfl) trivial) (by kernel_rfl)).by (F := F_AH f_AH) fun args b r hr => by
  obtain ⟨x0, x1, x2, x3, rfl, rfl, hr1⟩ := e_AH hr
  exact inl_eval ((d_AH f_AG (@L_AH_0) x0 x1 x2 x3).trans ((n_AH (fun (d : Int × Int × Bool) => some (Res.mk (AV.r (RV.agg [sU d.1, sU d.2.1, sB d.2.2])) [] [])) x0 x1 x2 x3).symm.trans hr1))

def K_AW {ρ : Type} (x0 : Int) (x1 : Int) (x2 : Bool) (x3 : Bool) (k : (Int × Bool) → Option ρ) : Option ρ := bif decide (x0 > 0) then bif x2 then k (-1152921504606846976, true) else k (1152921504606846976, true) else bif decide (x1 > 1152921504606846976) then bif x2 then k (-1152921504606846976, true) else
 k (1152921504606846976, true) else bif x2 then k (IntKind.wrap .i64 (0 - IntKind.wrap .i64 x1), x3) else k (IntKind.wrap .i64 x1, x3)
def f_AW (x0 : Int) (x1 : Int) (x2 : Bool) (x3 : Bool) : Option (Int × Bool) := K_AW x0 x1 x2 x3 some
section
open Go.Ab.Rdr
def QA_AW := ((pair (cons (ar (rc (cptr (nat 0) (ok' (nat 0)) (nat 1)))) (cons (ar (ra (cons (gc (cf (fi .u64 hole))) (cons (gc (cf (fi .u64 hole))) (cons (gc (cf (fb hole))) nil))))) nil)) (cons (cons (gc (cf (fb hole))) nil) nil)) : Rdr (List AV × List Blk) _)
end
def F_AW (f : (Int) → (Int) → (Bool) → (Bool) → Option (Int × Bool)) : Sem1 := fun args h => match (QA_AW).rd (args, h) with
  | some b => .opt (f b.1.2.1.1 b.1.2.1.2.1 b.1.2.1.2.2.1 b.2.1.1) fun (d : Int × Bool) => .leaf (Res.mk (rI d.1) [Ch.set [sB d.2]] [])
  | none => .fail
theorem d_AW (x0 : Int) (x1 : Int) (x2 : Bool) (x3 : Bool) : den Try.prog (envOf []) ⟨[], [], [0], [], none⟩ 200 42 [.r (.c (.ptr 0 (.k 0) 1)), .r (.agg [.c (.f (.i .u64 x0)), .c (.f (.i .u64 x1)), .c (.f (.b x2))])] [[.c (.f (.b x3))]] = K_AW x0 x1 x2 x3 (fun (d : Int × Bool) => some (Res.mk (rI d.1) [Ch.set [sB d.2]] [])) := by kernel_rfl
theorem m_AW {ρ σ : Type} (q : ρ → Option σ) (x0 : Int) (x1 : Int) (x2 : Bool) (x3 : Bool) (k : (Int × Bool) → Option ρ) : (K_AW x0 x1 x2 x3 k).bind q = K_AW x0 x1 x2 x3 (fun d => (k d).bind q) := by
  simp only [K_AW, bnd_cond, bnd_bind, bnd_none, bnd_sum]
theorem qa_AW : ∀ b, (QA_AW).em b = ([.r (.c (.ptr 0 (.k 0) 1)), .r (.agg [.c (.f (.i .u64 b.1.2.1.1)), .c (.f (.i .u64 b.1.2.1.2.1)), .c (.f (.b b.1.2.1.2.2.1))])], [[.c (.f (.b b.2.1.1))]]) := fun b => by kernel_rfl
theorem e_AW {f : (Int) → (Int) → (Bool) → (Bool) → Option (Int × Bool)} {args : List AV} {h : List Blk} {r : Res} (hr : (F_AW f args h).eval = some r) : ∃ x0 x1 x2 x3, args = [.r (.c (.ptr 0 (.k 0) 1)), .r (.agg [.c (.f (.i .u64 x0)), .c (.f (.i .u64 x1)), .c (.f (.b x2))])] ∧ h = [[.c (.f (.b x3))]] ∧ (f x0 x1 x2 x3).bind (fun (d : Int × Bool) => some (Res.mk (rI d.1) [Ch.set [sB d.2]] [])) = some r := by
  unfold F_AW at hr
  split at hr
  · rename_i b hb
    have e := ((QA_AW).ok _ _ hb).trans (qa_AW b)
    rw [opt_eval2] at hr
    exact ⟨b.1.2.1.1, b.1.2.1.2.1, b.1.2.1.2.2.1, b.2.1.1, (Prod.mk.inj e).1, (Prod.mk.inj e).2, hr⟩
  · cases hr
theorem n_AW {σ : Type} (q : (Int × Bool) → Option σ) (x0 : Int) (x1 : Int) (x2 : Bool) (x3 : Bool) : (f_AW x0 x1 x2 x3).bind q = K_AW x0 x1 x2 x3 q := by
  unfold f_AW
  exact m_AW q x0 x1 x2 x3 some
theorem s_AW [Amb] : Sound Try.prog 42 (F_AW f_AW) := (inl_sound (l := []) (.nil _) mixed [] [0] 200 (by kernel_rfl)).by (F := F_AW f_AW) fun args b r hr => by
  obtain ⟨x0, x1, x2, x3, rfl, rfl, hr1⟩ := e_AW hr
  exact inl_eval ((d_AW x0 x1 x2 x3).trans ((n_AW (fun (d : Int × Bool) => some (Res.mk (rI d.1) [Ch.set [sB d.2]] [])) x0 x1 x2 x3).symm.trans hr1))

def K_AQ {ρ : Type} (g_S : t7GNR) (g_BG : t8GNR) (g_AP : t3GNR) (g_AH : t9GNR) (g_AW : t10GNR) (x0 : Int) (x1 : Int) (x2 : Int) (x3 : Bool) (k : (Int ×
 Bool) → Option ρ) : Option ρ := Option.bind (g_S x0 x3) fun (d : Int × Bool) => Option.bind (g_S x1 d.2) fun (d_1 : Int × Bool) => Option.bind (g_BG d.1 d_1.1) fun (d : Int × Int × Bool) => Option.bind (g_S x2 d_1.2) fun (d_2 : Int × Bool) => bif d_2.1 == 0 then bif d.1 == 0 then bif d.2.1 == 0 then
 k (0, true) else bif d.2.2 then k (-1152921504606846976, true) else k (1152921504606846976, true) else bif d.2.2 then k (-1152921504606846976, true) else k (1152921504606846976, true) else Option.bind (g_AP d_2.1) fun (d_3 : Int) => Option.bind (g_AH d.1 d.2.1 (!d.2.2 == decide (d_2.1 < 0)) d_3) fun (d : Int ×
 Int × Bool) => Option.bind (g_AW d.1 d.2.1 d.2.2 d_2.2) fun (d : Int × Bool) => k (d.1, d.2)
def f_AQ (x0 : Int) (x1 : Int) (x2 : Int) (x3 : Bool) : Option (Int × Bool) := K_AQ f_S f_BG f_AP f_AH f_AW x0 x1 x2 x3 some
section
open Go.Ab.Rdr
def QA_AQ := ((pair (cons (ar (rc (cptr (nat 0) (ok' (nat 0)) (nat 1)))) (cons (ar (rc (cf (fi .i64 hole)))) (cons (ar (rc (cf (fi .i64 hole)))) (cons (ar (rc (cf (fi .i64 hole)))) nil)))) (cons (cons (gc (cf (fb hole))) nil) nil)) : Rdr (List AV × List Blk) _)
end
def F_AQ (f : (Int) → (Int) → (Int) → (Bool) → Option (Int × Bool)) : Sem1 := fun args h => match (QA_AQ).rd (args, h) with
  | some b => .opt (f b.1.2.1 b.1.2.2.1 b.1.2.2.2.1 b.2.1.1) fun (d : Int × Bool) => .leaf (Res.mk (rI d.1) [Ch.set [sB d.2]] [])
  | none => .fail
theorem d_AQ (g_S : t7GNR) (g_BG : t8GNR) (g_AP : t3GNR) (g_AH : t9GNR) (g_AW : t10GNR) (x0 : Int) (x1 : Int) (x2 : Int) (x3 : Bool) : den Try.prog (envOf [(41,
 F_S g_S), (40, F_BG g_BG), (44, F_AP g_AP), (43, F_AH g_AH), (42, F_AW g_AW)]) ⟨[], [], [], [], none⟩ 200 15 [.r (.c (.ptr 0 (.k 0) 1)), rI x0, rI x1, rI x2] [[.c (.f (.b x3))]] = K_AQ g_S g_BG g_AP g_AH g_AW x0 x1 x2 x3 (fun (d : Int × Bool) => some (Res.mk (rI d.1) [Ch.set [sB d.2]] [])) := by kernel_rfl
theorem m_AQ {ρ σ : Type} (q : ρ → Option σ) (g_S : t7GNR) (g_BG : t8GNR) (g_AP : t3GNR) (g_AH : t9GNR) (g_AW : t10GNR) (x0 : Int) (x1 : Int) (x2 : Int) (x3 : Bool) (k : (Int × Bool) → Option ρ) : (K_AQ g_S g_BG g_AP g_AH g_AW x0 x1 x2 x3 k).bind q = K_AQ g_S g_BG g_AP g_AH g_AW x0 x1 x2 x3 (fun d => (k d).bind q) := by
  simp only [K_AQ, bnd_cond, bnd_bind, bnd_none, bnd_sum]
theorem qa_AQ : ∀ b, (QA_AQ).em b = ([.r (.c (.ptr 0 (.k 0) 1)), rI b.1.2.1, rI b.1.2.2.1, rI b.1.2.2.2.1], [[.c (.f (.b b.2.1.1))]]) := fun b => by kernel_rfl
theorem e_AQ {f : (Int) → (Int) → (Int) → (Bool) → Option (Int × Bool)} {args : List AV} {h : List Blk} {r : Res} (hr : (F_AQ f args h).eval = some r) : ∃ x0 x1 x2 x3, args = [.r (.c (.ptr 0 (.k 0) 1)), rI x0, rI x1, rI x2] ∧ h = [[.c (.f (.b x3))]] ∧ (f x0 x1 x2 x3).bind (fun (d : Int × Bool) => some (Res.mk (rI d.1) [Ch.set [sB d.2]] [])) = some r := by
  unfold F_AQ at hr
  split at hr
  · rename_i b hb
    have e := ((QA_AQ).ok _ _ hb).trans (qa_AQ b)
    rw [opt_eval2] at hr
    exact ⟨b.1.2.1, b.1.2.2.1, b.1.2.2.2.1, b.2.1.1, (Prod.mk.inj e).1, (Prod.mk.inj e).2, hr⟩
  · cases hr
theorem n_AQ {σ : Type} (q : (Int × Bool) → Option σ) (x0 : Int) (x1 : Int) (x2 : Int) (x3 : Bool) : (f_AQ x0 x1 x2 x3).bind q = K_AQ f_S f_BG f_AP f_AH f_AW x0 x1 x2 x3 q := by
  unfold f_AQ
  exact m_AQ q f_S f_BG f_AP f_AH f_AW x0 x1 x2 x3 some
theorem s_AQ [Amb] : Sound Try.prog 15 (F_AQ f_AQ) := (inl_sound (l := [(41, F_S f_S), (40, F_BG f_BG), (44, F_AP f_AP), (43, F_AH f_AH), (42, F_AW f_AW)]) (.cons s_S (.cons s_BG (.cons s_AP (.cons s_AH (.cons s_AW (.nil _)))))) mixed [] [] 200 (by kernel_rfl)).by (F := F_AQ f_AQ) fun args b r hr => by
  obtain ⟨x0, x1, x2, x3, rfl, rfl, hr1⟩ := e_AQ hr
  exact inl_eval ((d_AQ f_S f_BG f_AP f_AH f_AW x0 x1 x2 x3).trans ((n_AQ (fun (d : Int × Bool) => some (Res.mk (rI d.1) [Ch.set [sB d.2]] [])) x0 x1 x2 x3).symm.trans hr1))

end Go.Proofs.Ytdpenjncfmkbgaa
set_option maxRecDepth 100000
set_option maxHeartbeats 4000000
set_option linter.unusedVariables false
namespace Go.Proofs.Ytdpenjncfmkbgaa
open Go.Ab
abbrev u0GS1 : List Nat := [1, 2, 3, 4, 7, 12, 13, 14, 15, 16, 17, 18, 19, 20, 21, 22, 23, 24, 25, 26, 27, 28, 29, 30, 31, 32, 33, 34, 35, 36, 37, 38, 39, 40, 41, 42, 43, 44, 45, 46, 47, 48, 49, 50, 51, 52, 53, 54, 55, 56, 57, 58, 59, 60, 61, 62, 63, 64, 65, 66, 67, 68, 69, 70, 71, 72, 73, 74, 75, 76, 77, 78, 79, 80, 81, 82, 83, 84, 85, 86, 87, 88, 89, 90, 91, 92, 93, 94, 95, 96, 97, 98, 99, 100, 101, 102, 103]
abbrev u1GS1 : List Nat := [1, 2, 3, 4, 7, 8, 9, 10, 11, 16, 17, 18, 19, 20, 21, 22, 23, 24, 25, 26, 27, 28, 29, 30, 31, 32, 33, 34, 35, 36, 37, 38, 39, 40, 41, 42, 43, 44, 45, 46, 47, 48, 49, 50, 51, 52, 53, 54, 55, 56, 57, 58, 59, 60, 61, 62, 63, 64, 65, 66, 67, 68, 69, 70, 71, 72, 73, 74, 75, 76, 77, 78, 79, 80, 81, 82, 83, 84, 85, 86, 87, 88, 89, 90, 91, 92, 93, 94, 95, 96, 97, 98, 99, 100, 101, 102, 103]
abbrev u2GS1 : List Nat := [0, 1, 2, 3, 5, 6, 7, 8, 9, 10, 11, 12, 13, 14, 15, 16, 17, 18, 19, 20, 21, 22, 23, 24, 25, 26, 27, 28, 29, 30, 31, 32, 33, 34, 35, 36, 37, 38, 39, 40, 41, 42, 43, 44, 45, 46, 47, 48, 49, 50, 51, 52, 53, 54, 55, 56, 57, 58, 59, 60, 61, 62, 63, 64, 65, 66, 67, 68, 69, 70, 71, 72, 73, 74, 75, 76, 77, 78, 79, 80, 81, 82, 83, 84, 85, 86, 87, 88, 89, 90, 91, 92, 93, 94, 95, 96, 97, 98, 99, 100, 101, 102, 103]
abbrev u3GS1 : List Nat := [0, 5, 6, 7, 8, 9, 10, 11, 12, 13, 14, 15, 16, 17, 18, 19, 20, 21, 22, 23, 24, 25, 26, 27, 28, 29, 30, 31, 32, 33, 34, 35, 36, 37, 38, 39, 40, 41, 42, 43, 44, 45, 46, 47, 48, 49, 50, 51, 56, 57, 58, 59, 60, 61, 62, 63]
abbrev u4GS1 : List Nat := [0, 1, 3, 4, 5, 6, 7, 8, 9, 10, 11, 12, 13, 14, 15, 16, 17, 18, 19, 20, 21, 22, 23, 24, 25, 26, 27, 28, 29, 30, 31, 32, 33, 34, 35, 36, 37, 38, 39, 40, 41, 42, 43, 44, 45, 46, 47, 48, 49, 50, 51, 52, 53, 54, 55, 56, 57, 58, 59, 60, 61, 62, 63]
abbrev u5GS1 : List Nat := [2, 5, 7, 8, 9, 10, 11, 12, 13, 18, 19, 20, 21, 22, 23, 24, 25, 26, 27, 28, 29, 30, 31, 32, 33, 34, 35, 36, 37, 38, 39, 40, 41, 42, 43, 44, 45, 46, 47, 48, 49, 50, 51, 52, 53, 54, 55]
abbrev u6GS1 : List Nat := [0, 1, 2, 3, 4, 5, 6, 7, 8, 9, 10, 11, 12, 13, 15, 16, 17, 18, 19, 20, 21, 22, 23, 24, 25, 26, 27, 28, 29, 30, 31, 32, 33, 34, 35, 36, 37, 38, 39, 40, 41, 42, 43, 44, 45, 46, 47, 48, 49, 50, 51, 52, 53, 54, 55]
abbrev u7GS1 : List Nat := [1, 2, 5, 8, 9, 10, 13, 14, 15, 16, 17, 18, 19, 20, 21, 22, 23, 24, 25, 26, 27, 28, 29, 30, 31, 32, 33, 34, 35, 36, 37]
abbrev u8GS1 : List Nat := [0, 1, 2, 3, 4, 5, 6, 7, 8, 9, 11, 12, 13, 14, 15, 16, 17, 18, 19, 20, 21, 22, 23, 24, 25, 26, 27, 28, 29, 30, 31, 32, 33, 34, 35, 36, 37]
abbrev t9GS1 := Int → Bool → Option (Int × Bool)
abbrev t10GS1 := Int → Int → Option (Int × Int × Bool)
abbrev t11GS1 := Int → Int → Bool → Int → Option (Int × Int × Bool)
abbrev t12GS1 := Int → Int → Bool → Bool → Option (Int × Bool)
abbrev t13GS1 := Int → Int → Int → Bool → Option (Int × Bool)
abbrev t14GS1 := Int → Option Int
abbrev t15GS1 := Int → Int → Bool → Option (Int × Bool)
abbrev t16GS1 := Int → Int → Option (Int × Int)
abbrev t17GS1 := Int → Int → Bool → Int → Int → Bool → Option Bool
abbrev t18GS1 := Int → Int → Bool → Option (Int × Int)
abbrev t19GS1 := Int → Option (Int × Int)
abbrev t20GS1 := Int → Option NI
abbrev GS1g0 := Int → Int → Bool → Int → Int → Bool → Option (Int × Int × Bool)
abbrev GS1t1 := Int × Int × Int × Int × Int × Int × Int × Bool
abbrev GS1t2 := Int × Int × Int × Int × Int × Int × Int × Bool × Bool
abbrev GS1t3 := Bool × NI × Int × Int × Int × NI × Int × NI × Int
def K_AR {ρ : Type} (x0 : Int) (k : (Int) → Option ρ) : Option ρ := bif decide (Int.tmod x0 6746518852 > 3373259426) then bif decide (IntKind.wrap .i64 (Int.tmod x0 6746518852 - 6746518852) ≤ -3373259426) then k (IntKind.wrap .i64 (IntKind.wrap .i64 (Int.tmod x0 6746518852 - 6746518852) + 6746518852)) else
 k (IntKind.wrap .i64 (Int.tmod x0 6746518852 - 6746518852)) else bif decide (Int.tmod x0 6746518852 ≤ -3373259426) then k (IntKind.wrap .i64 (Int.tmod x0 6746518852 + 6746518852)) else k (Int.tmod x0 6746518852)
def f_AR (x0 : Int) : Option (Int) := K_AR x0 some
section
open Go.Ab.Rdr
def QA_AR := ((pair (cons (ar (rc (cf (fi .i64 hole)))) nil) nil) : Rdr (List AV × List Blk) _)
end
def F_AR (f : (Int) → Option (Int)) : Sem1 := fun args h => match (QA_AR).rd (args, h) with
  | some b => .opt (f b.1.1) fun (d : Int) => .leaf (Res.mk (AV.r (RV.c (fI d))) [] [])
  | none => .fail
theorem d_AR (x0 : Int) : den Try.prog (envOf []) ⟨[], [], [], [], none⟩ 200 86 [rI x0] [] = K_AR x0 (fun (d : Int) => some (Res.mk (AV.r (RV.c (fI d))) [] [])) := by kernel_rfl
theorem m_AR {ρ σ : Type} (q : ρ → Option σ) (x0 : Int) (k : (Int) → Option ρ) : (K_AR x0 k).bind q = K_AR x0 (fun d => (k d).bind q) := by
  simp only [K_AR, bnd_cond, bnd_bind, bnd_none, bnd_sum]
theorem qa_AR : ∀ b, (QA_AR).em b = ([rI b.1.1], []) := fun b => by kernel_rfl
theorem e_AR {f : (Int) → Option (Int)} {args : List AV} {h : List Blk} {r : Res} (hr : (F_AR f args h).eval = some r) : ∃ x0, args = [rI x0] ∧ h = [] ∧ (f x0).bind (fun (d : Int) => some (Res.mk (AV.r (RV.c (fI d))) [] [])) = some r := by
  unfold F_AR at hr
  split at hr
  · rename_i b hb
    have e := ((QA_AR).ok _ _ hb).trans (qa_AR b)
    rw [opt_eval2] at hr
    exact ⟨b.1.1, (Prod.mk.inj e).1, (Prod.mk.inj e).2, hr⟩
  · cases hr
theorem n_AR {σ : Type} (q : (Int) → Option σ) (x0 : Int) : (f_AR x0).bind q = K_AR x0 q := by
  unfold f_AR
  exact m_AR q x0 some
theorem s_AR [Amb] : Sound Try.prog 86 (F_AR f_AR) := (inl_sound (l := []) (.nil _) mixed [] [] 200 (by kernel_rfl)).by (F := F_AR f_AR) fun args b r hr => by
  obtain ⟨x0, rfl, rfl, hr1⟩ := e_AR hr
  exact inl_eval ((d_AR x0).trans ((n_AR (fun (d : Int) => some (Res.mk (AV.r (RV.c (fI d))) [] [])) x0).symm.trans hr1))

def K_BW {ρ : Type} (g_AG : GS1g0) (x0 : Int) (x1 : Int) (x2 : Bool) (x3 : Int) (k : (Int × Int × Bool) → Option ρ) : Option ρ := bif x3 == 0 then k (x0, x1, x2) else bif decide (IntKind.wrap .i64 (x3 - 1) ≥ 64) then bif !decide (IntKind.wrap .u64 (IntKind.wrap .i64 (x3 - 65)) < 0) then
 Option.bind (g_AG x0 x1 x2 (IntKind.wrap .u64 (1 * 2 ^ min (Int.toNat (IntKind.wrap .u64 (IntKind.wrap .i64 (x3 - 65)))) 64)) 0 x2) fun (d : Int × Int × Bool) => bif decide (x3 ≥ 64) then bif !decide (IntKind.wrap .u64 (IntKind.wrap .i64 (x3 - 64)) < 0) then k (0, Int.fdiv d.1 (2 ^ min (Int.toNat (IntKind.wrap .u64 (IntKind.wrap .i64 (x3 - 64)))) 64),
 d.2.2) else none else bif !decide (IntKind.wrap .u64 x3 < 0) then bif !decide (IntKind.wrap .u64 x3 < 0) then bif !decide (IntKind.wrap .u64 (IntKind.wrap .i64 (64 - x3)) < 0) then k (Int.fdiv d.1 (2 ^ min (Int.toNat (IntKind.wrap .u64 x3)) 64), IntKind.wrap .u64 (Int.ofNat (BitVec.toNat (BitVec.ofInt 64 (Int.fdiv d.2.1 (2 ^ min (Int.toNat (IntKind.wrap .u64 x3)) 64)) ||| BitVec.ofInt 64 (IntKind.wrap .u64 (d.1 * 2 ^ min (Int.toNat (IntKind.wrap .u64 (IntKind.wrap .i64 (64 - x3)))) 64))))),
 d.2.2) else none else none else none else none else bif !decide (IntKind.wrap .u64 (IntKind.wrap .i64 (x3 - 1)) < 0) then Option.bind (g_AG x0 x1 x2 0 (IntKind.wrap .u64 (1 * 2 ^ min (Int.toNat (IntKind.wrap .u64 (IntKind.wrap .i64 (x3 - 1)))) 64)) x2) fun (d : Int ×
 Int × Bool) => bif decide (x3 ≥ 64) then bif !decide (IntKind.wrap .u64 (IntKind.wrap .i64 (x3 - 64)) < 0) then k (0, Int.fdiv d.1 (2 ^ min (Int.toNat (IntKind.wrap .u64 (IntKind.wrap .i64 (x3 - 64)))) 64), d.2.2) else none else bif !decide (IntKind.wrap .u64 x3 < 0) then
 bif !decide (IntKind.wrap .u64 x3 < 0) then bif !decide (IntKind.wrap .u64 (IntKind.wrap .i64 (64 - x3)) < 0) then k (Int.fdiv d.1 (2 ^ min (Int.toNat (IntKind.wrap .u64 x3)) 64), IntKind.wrap .u64 (Int.ofNat (BitVec.toNat (BitVec.ofInt 64 (Int.fdiv d.2.1 (2 ^ min (Int.toNat (IntKind.wrap .u64 x3)) 64)) ||| BitVec.ofInt 64 (IntKind.wrap .u64 (d.1 * 2 ^ min (Int.toNat (IntKind.wrap .u64 (IntKind.wrap .i64 (64 - x3)))) 64))))),
 d.2.2) else none else none else none else none
def f_BW (x0 : Int) (x1 : Int) (x2 : Bool) (x3 : Int) : Option (Int × Int × Bool) := K_BW f_AG x0 x1 x2 x3 some
section
open Go.Ab.Rdr
def QA_BW := ((pair (cons (ar (ra (cons (gc (cf (fi .u64 hole))) (cons (gc (cf (fi .u64 hole))) (cons (gc (cf (fb hole))) nil))))) (cons (ar (rc (cf (fi .i64 hole)))) nil)) nil) : Rdr (List AV × List Blk) _)
end
def F_BW (f : (Int) → (Int) → (Bool) → (Int) → Option (Int × Int × Bool)) : Sem1 := fun args h => match (QA_BW).rd (args, h) with
  | some b => .opt (f b.1.1.1 b.1.1.2.1 b.1.1.2.2.1 b.1.2.1) fun (d : Int × Int × Bool) => .leaf (Res.mk (AV.r (RV.agg [sU d.1, sU d.2.1, sB d.2.2])) [] [])
  | none => .fail
theorem d_BW (g_AG : GS1g0) (x0 : Int) (x1 : Int) (x2 : Bool) (x3 : Int) : den Try.prog (envOf [(66, F_AG g_AG)]) ⟨[], [], [], [], none⟩ 200 72 [.r (.agg [.c (.f (.i .u64 x0)), .c (.f (.i .u64 x1)), .c (.f (.b x2))]), rI x3] [] = K_BW g_AG x0 x1 x2 x3 (fun (d : Int × Int × Bool) => some (Res.mk (AV.r (RV.agg [sU d.1,
 sU d.2.1, sB d.2.2])) [] [])) := by kernel_rfl
theorem m_BW {ρ σ : Type} (q : ρ → Option σ) (g_AG : GS1g0) (x0 : Int) (x1 : Int) (x2 : Bool) (x3 : Int) (k : (Int × Int × Bool) → Option ρ) : (K_BW g_AG x0 x1 x2 x3 k).bind q = K_BW g_AG x0 x1 x2 x3 (fun d => (k d).bind q) := by
  simp only [K_BW, bnd_cond, bnd_bind, bnd_none, bnd_sum]
theorem qa_BW : ∀ b, (QA_BW).em b = ([.r (.agg [.c (.f (.i .u64 b.1.1.1)), .c (.f (.i .u64 b.1.1.2.1)), .c (.f (.b b.1.1.2.2.1))]), rI b.1.2.1], []) := fun b => by kernel_rfl
theorem e_BW {f : (Int) → (Int) → (Bool) → (Int) → Option (Int × Int × Bool)} {args : List AV} {h : List Blk} {r : Res} (hr : (F_BW f args h).eval = some r) : ∃ x0 x1 x2 x3, args = [.r (.agg [.c (.f (.i .u64 x0)), .c (.f (.i .u64 x1)), .c (.f (.b x2))]), rI x3] ∧ h = [] ∧ (f x0 x1 x2 x3).bind (fun (d : Int × Int × Bool) => some (Res.mk (AV.r (RV.agg [sU d.1, sU d.2.1, sB d.2.2])) [] [])) = some r := by
  unfold F_BW at hr
  split at hr
  · rename_i b hb
    have e := ((QA_BW).ok _ _ hb).trans (qa_BW b)
    rw [opt_eval2] at hr
    exact ⟨b.1.1.1, b.1.1.2.1, b.1.1.2.2.1, b.1.2.1, (Prod.mk.inj e).1, (Prod.mk.inj e).2, hr⟩
  · cases hr
theorem n_BW {σ : Type} (q : (Int × Int × Bool) → Option σ) (x0 : Int) (x1 : Int) (x2 : Bool) (x3 : Int) : (f_BW x0 x1 x2 x3).bind q = K_BW f_AG x0 x1 x2 x3 q := by
  unfold f_BW
  exact m_BW q f_AG x0 x1 x2 x3 some
theorem s_BW [Amb] : Sound Try.prog 72 (F_BW f_BW) := (inl_sound (l := [(66, F_AG f_AG)]) (.cons s_AG (.nil _)) mixed [] [] 200 (by kernel_rfl)).by (F := F_BW f_BW) fun args b r hr => by
  obtain ⟨x0, x1, x2, x3, rfl, rfl, hr1⟩ := e_BW hr
  exact inl_eval ((d_BW f_AG x0 x1 x2 x3).trans ((n_BW (fun (d : Int × Int × Bool) => some (Res.mk (AV.r (RV.agg [sU d.1, sU d.2.1, sB d.2.2])) [] [])) x0 x1 x2 x3).symm.trans hr1))

def K_AS {ρ : Type} (g_S : t9GS1) (g_BG : t10GS1) (g_BW : t11GS1) (g_AW : t12GS1) (x0 : Int) (x1 : Int) (x2 : Int) (x3 : Bool) (k : (Int × Bool) → Option ρ) : Option ρ := Option.bind (g_S x0 x3) fun (d : Int ×
 Bool) => Option.bind (g_S x1 d.2) fun (d_1 : Int × Bool) => Option.bind (g_BG d.1 d_1.1) fun (d : Int × Int × Bool) => Option.bind (g_BW d.1 d.2.1 d.2.2 x2) fun (d : Int × Int × Bool) => Option.bind (g_AW d.1 d.2.1 d.2.2 d_1.2) fun (d : Int × Bool) => k (d.1, d.2)
def f_AS (x0 : Int) (x1 : Int) (x2 : Int) (x3 : Bool) : Option (Int × Bool) := K_AS f_S f_BG f_BW f_AW x0 x1 x2 x3 some
section
open Go.Ab.Rdr
def QA_AS := ((pair (cons (ar (rc (cptr (nat 0) (ok' (nat 0)) (nat 1)))) (cons (ar (rc (cf (fi .i64 hole)))) (cons (ar (rc (cf (fi .i64 hole)))) (cons (ar (rc (cf (fi .i64 hole)))) nil)))) (cons (cons (gc (cf (fb hole))) nil) nil)) : Rdr (List AV × List Blk) _)
end
def F_AS (f : (Int) → (Int) → (Int) → (Bool) → Option (Int × Bool)) : Sem1 := fun args h => match (QA_AS).rd (args, h) with
  | some b => .opt (f b.1.2.1 b.1.2.2.1 b.1.2.2.2.1 b.2.1.1) fun (d : Int × Bool) => .leaf (Res.mk (AV.r (RV.c (fI d.1))) [Ch.set [sB d.2]] [])
  | none => .fail
theorem d_AS (g_S : t9GS1) (g_BG : t10GS1) (g_BW : t11GS1) (g_AW : t12GS1) (x0 : Int) (x1 : Int) (x2 : Int) (x3 : Bool) : den Try.prog (envOf [(41, F_S g_S), (40,
 F_BG g_BG), (72, F_BW g_BW), (42, F_AW g_AW)]) ⟨[], [], [], [], none⟩ 200 49 [.r (.c (.ptr 0 (.k 0) 1)), rI x0, rI x1, rI x2] [[.c (.f (.b x3))]] = K_AS g_S g_BG g_BW g_AW x0 x1 x2 x3 (fun (d : Int × Bool) => some (Res.mk (AV.r (RV.c (fI d.1))) [Ch.set [sB d.2]] [])) := by kernel_rfl
theorem m_AS {ρ σ : Type} (q : ρ → Option σ) (g_S : t9GS1) (g_BG : t10GS1) (g_BW : t11GS1) (g_AW : t12GS1) (x0 : Int) (x1 : Int) (x2 : Int) (x3 : Bool) (k : (Int × Bool) → Option ρ) : (K_AS g_S g_BG g_BW g_AW x0 x1 x2 x3 k).bind q = K_AS g_S g_BG g_BW g_AW x0 x1 x2 x3 (fun d => (k d).bind q) := by
  simp only [K_AS, bnd_cond, bnd_bind, bnd_none, bnd_sum]
theorem qa_AS : ∀ b, (QA_AS).em b = ([.r (.c (.ptr 0 (.k 0) 1)), rI b.1.2.1, rI b.1.2.2.1, rI b.1.2.2.2.1], [[.c (.f (.b b.2.1.1))]]) := fun b => by kernel_rfl
theorem e_AS {f : (Int) → (Int) → (Int) → (Bool) → Option (Int × Bool)} {args : List AV} {h : List Blk} {r : Res} (hr : (F_AS f args h).eval = some r) : ∃ x0 x1 x2 x3, args = [.r (.c (.ptr 0 (.k 0) 1)), rI x0, rI x1, rI x2] ∧ h = [[.c (.f (.b x3))]] ∧ (f x0 x1 x2 x3).bind (fun (d : Int × Bool) => some (Res.mk (AV.r (RV.c (fI d.1))) [Ch.set [sB d.2]] [])) = some r := by
  unfold F_AS at hr
  split at hr
  · rename_i b hb
    have e := ((QA_AS).ok _ _ hb).trans (qa_AS b)
    rw [opt_eval2] at hr
    exact ⟨b.1.2.1, b.1.2.2.1, b.1.2.2.2.1, b.2.1.1, (Prod.mk.inj e).1, (Prod.mk.inj e).2, hr⟩
  · cases hr
theorem n_AS {σ : Type} (q : (Int × Bool) → Option σ) (x0 : Int) (x1 : Int) (x2 : Int) (x3 : Bool) : (f_AS x0 x1 x2 x3).bind q = K_AS f_S f_BG f_BW f_AW x0 x1 x2 x3 q := by
  unfold f_AS
  exact m_AS q f_S f_BG f_BW f_AW x0 x1 x2 x3 some
theorem s_AS [Amb] : Sound Try.prog 49 (F_AS f_AS) := (inl_sound (l := [(41, F_S f_S), (40, F_BG f_BG), (72, F_BW f_BW), (42, F_AW f_AW)]) (.cons s_S (.cons s_BG (.cons s_BW (.cons s_AW (.nil _))))) mixed [] [] 200 (by kernel_rfl)).by (F := F_AS f_AS) fun args b r hr => by
  obtain ⟨x0, x1, x2, x3, rfl, rfl, hr1⟩ := e_AS hr
  exact inl_eval ((d_AS f_S f_BG f_BW f_AW x0 x1 x2 x3).trans ((n_AS (fun (d : Int × Bool) => some (Res.mk (AV.r (RV.c (fI d.1))) [Ch.set [sB d.2]] [])) x0 x1 x2 x3).symm.trans hr1))

def K_AC {ρ : Type} (g_AS : t13GS1) (x0 : Int) (x1 : Int) (x2 : Bool) (k : (Int × Bool) → Option ρ) : Option ρ := Option.bind (g_AS x0 x1 30 x2) fun (d : Int × Bool) => k (d.1, d.2)
def f_AC (x0 : Int) (x1 : Int) (x2 : Bool) : Option (Int × Bool) := K_AC f_AS x0 x1 x2 some
section
open Go.Ab.Rdr
def QA_AC := ((pair (cons (ar (rc (cptr (nat 0) (ok' (nat 0)) (nat 1)))) (cons (ar (rc (cf (fi .i64 hole)))) (cons (ar (rc (cf (fi .i64 hole)))) nil))) (cons (cons (gc (cf (fb hole))) nil) nil)) : Rdr (List AV × List Blk) _)
end
def F_AC (f : (Int) → (Int) → (Bool) → Option (Int × Bool)) : Sem1 := fun args h => match (QA_AC).rd (args, h) with
  | some b => .opt (f b.1.2.1 b.1.2.2.1 b.2.1.1) fun (d : Int × Bool) => .leaf (Res.mk (AV.r (RV.c (fI d.1))) [Ch.set [sB d.2]] [])
  | none => .fail
theorem d_AC (g_AS : t13GS1) (x0 : Int) (x1 : Int) (x2 : Bool) : den Try.prog (envOf [(49, F_AS g_AS)]) ⟨[], [], [], [], none⟩ 200 69 [.r (.c (.ptr 0 (.k 0) 1)), rI x0, rI x1] [[.c (.f (.b x2))]] = K_AC g_AS x0 x1 x2 (fun (d : Int ×
 Bool) => some (Res.mk (AV.r (RV.c (fI d.1))) [Ch.set [sB d.2]] [])) := by kernel_rfl
theorem m_AC {ρ σ : Type} (q : ρ → Option σ) (g_AS : t13GS1) (x0 : Int) (x1 : Int) (x2 : Bool) (k : (Int × Bool) → Option ρ) : (K_AC g_AS x0 x1 x2 k).bind q = K_AC g_AS x0 x1 x2 (fun d => (k d).bind q) := by
  simp only [K_AC, bnd_cond, bnd_bind, bnd_none, bnd_sum]
theorem qa_AC : ∀ b, (QA_AC).em b = ([.r (.c (.ptr 0 (.k 0) 1)), rI b.1.2.1, rI b.1.2.2.1], [[.c (.f (.b b.2.1.1))]]) := fun b => by kernel_rfl
theorem e_AC {f : (Int) → (Int) → (Bool) → Option (Int × Bool)} {args : List AV} {h : List Blk} {r : Res} (hr : (F_AC f args h).eval = some r) : ∃ x0 x1 x2, args = [.r (.c (.ptr 0 (.k 0) 1)), rI x0, rI x1] ∧ h = [[.c (.f (.b x2))]] ∧ (f x0 x1 x2).bind (fun (d : Int × Bool) => some (Res.mk (AV.r (RV.c (fI d.1))) [Ch.set [sB d.2]] [])) = some r := by
  unfold F_AC at hr
  split at hr
  · rename_i b hb
    have e := ((QA_AC).ok _ _ hb).trans (qa_AC b)
    rw [opt_eval2] at hr
    exact ⟨b.1.2.1, b.1.2.2.1, b.2.1.1, (Prod.mk.inj e).1, (Prod.mk.inj e).2, hr⟩
  · cases hr
theorem n_AC {σ : Type} (q : (Int × Bool) → Option σ) (x0 : Int) (x1 : Int) (x2 : Bool) : (f_AC x0 x1 x2).bind q = K_AC f_AS x0 x1 x2 q := by
  unfold f_AC
  exact m_AC q f_AS x0 x1 x2 some
theorem s_AC [Amb] : Sound Try.prog 69 (F_AC f_AC) := (inl_sound (l := [(49, F_AS f_AS)]) (.cons s_AS (.nil _)) mixed [] [] 200 (by kernel_rfl)).by (F := F_AC f_AC) fun args b r hr => by
  obtain ⟨x0, x1, x2, rfl, rfl, hr1⟩ := e_AC hr
  exact inl_eval ((d_AC f_AS x0 x1 x2).trans ((n_AC (fun (d : Int × Bool) => some (Res.mk (AV.r (RV.c (fI d.1))) [Ch.set [sB d.2]] [])) x0 x1 x2).symm.trans hr1))

def K_AZ {ρ : Type} (g_S : t9GS1) (x0 : Int) (x1 : Int) (x2 : Bool) (k : (Int × Bool) → Option ρ) : Option ρ := Option.bind (g_S x0 x2) fun (d : Int × Bool) => Option.bind (g_S x1 d.2) fun (d_1 : Int × Bool) => Option.bind (g_S (IntKind.wrap .i64 (d.1 + d_1.1)) d_1.2) fun (d : Int ×
 Bool) => k (d.1, d.2)
def f_AZ (x0 : Int) (x1 : Int) (x2 : Bool) : Option (Int × Bool) := K_AZ f_S x0 x1 x2 some
section
open Go.Ab.Rdr
def QA_AZ := ((pair (cons (ar (rc (cptr (nat 0) (ok' (nat 0)) (nat 1)))) (cons (ar (rc (cf (fi .i64 hole)))) (cons (ar (rc (cf (fi .i64 hole)))) nil))) (cons (cons (gc (cf (fb hole))) nil) nil)) : Rdr (List AV × List Blk) _)
end
def F_AZ (f : (Int) → (Int) → (Bool) → Option (Int × Bool)) : Sem1 := fun args h => match (QA_AZ).rd (args, h) with
  | some b => .opt (f b.1.2.1 b.1.2.2.1 b.2.1.1) fun (d : Int × Bool) => .leaf (Res.mk (AV.r (RV.c (fI d.1))) [Ch.set [sB d.2]] [])
  | none => .fail
theorem d_AZ (g_S : t9GS1) (x0 : Int) (x1 : Int) (x2 : Bool) : den Try.prog (envOf [(41, F_S g_S)]) ⟨[], [], [], [], none⟩ 200 87 [.r (.c (.ptr 0 (.k 0) 1)), rI x0, rI x1] [[.c (.f (.b x2))]] = K_AZ g_S x0 x1 x2 (fun (d : Int × Bool) => some (Res.mk (AV.r (RV.c (fI d.1))) [Ch.set [sB d.2]] [])) := by kernel_rfl
theorem m_AZ {ρ σ : Type} (q : ρ → Option σ) (g_S : t9GS1) (x0 : Int) (x1 : Int) (x2 : Bool) (k : (Int × Bool) → Option ρ) : (K_AZ g_S x0 x1 x2 k).bind q = K_AZ g_S x0 x1 x2 (fun d => (k d).bind q) := by
  simp only [K_AZ, bnd_cond, bnd_bind, bnd_none, bnd_sum]
theorem qa_AZ : ∀ b, (QA_AZ).em b = ([.r (.c (.ptr 0 (.k 0) 1)), rI b.1.2.1, rI b.1.2.2.1], [[.c (.f (.b b.2.1.1))]]) := fun b => by kernel_rfl
theorem e_AZ {f : (Int) → (Int) → (Bool) → Option (Int × Bool)} {args : List AV} {h : List Blk} {r : Res} (hr : (F_AZ f args h).eval = some r) : ∃ x0 x1 x2, args = [.r (.c (.ptr 0 (.k 0) 1)), rI x0, rI x1] ∧ h = [[.c (.f (.b x2))]] ∧ (f x0 x1 x2).bind (fun (d : Int × Bool) => some (Res.mk (AV.r (RV.c (fI d.1))) [Ch.set [sB d.2]] [])) = some r := by
  unfold F_AZ at hr
  split at hr
  · rename_i b hb
    have e := ((QA_AZ).ok _ _ hb).trans (qa_AZ b)
    rw [opt_eval2] at hr
    exact ⟨b.1.2.1, b.1.2.2.1, b.2.1.1, (Prod.mk.inj e).1, (Prod.mk.inj e).2, hr⟩
  · cases hr
theorem n_AZ {σ : Type} (q : (Int × Bool) → Option σ) (x0 : Int) (x1 : Int) (x2 : Bool) : (f_AZ x0 x1 x2).bind q = K_AZ f_S x0 x1 x2 q := by
  unfold f_AZ
  exact m_AZ q f_S x0 x1 x2 some
theorem s_AZ [Amb] : Sound Try.prog 87 (F_AZ f_AZ) := (inl_sound (l := [(41, F_S f_S)]) (.cons s_S (.nil _)) mixed [] [] 200 (by kernel_rfl)).by (F := F_AZ f_AZ) fun args b r hr => by
  obtain ⟨x0, x1, x2, rfl, rfl, hr1⟩ := e_AZ hr
  exact inl_eval ((d_AZ f_S x0 x1 x2).trans ((n_AZ (fun (d : Int × Bool) => some (Res.mk (AV.r (RV.c (fI d.1))) [Ch.set [sB d.2]] [])) x0 x1 x2).symm.trans hr1))

def S_O_0 {ρ : Type} (g_S : t9GS1) (g_AR : t14GS1) (g_AC : t15GS1) (g_AZ : t15GS1) (g_AB : t13GS1) (x0 : Int) (x1 : Int) (x2 : Int) (x3 : Int) (x4 : Bool) (c : (Int ×
 Int × Int × Int × Bool) → Option ρ) (x : (Int × Int × Int × Int × Bool × Bool) → Option ρ) : Option ρ := bif decide (x3 < 6) then bif inR x3 6 then bif x3 == 5 then Option.bind (g_AC x1 x2 x4) fun (d : Int × Bool) => Option.bind (g_AZ 1073741824 d.1 d.2) fun (d : Int × Bool) => c (x0, x1, d.1, IntKind.wrap .i64 (x3 + 1),
 d.2) else bif x3 == 4 then Option.bind (g_AC x1 x2 x4) fun (d : Int × Bool) => Option.bind (g_AZ (-536870912) d.1 d.2) fun (d : Int × Bool) => c (x0, x1, d.1, IntKind.wrap .i64 (x3 + 1), d.2) else bif x3 == 3 then Option.bind (g_AC x1 x2 x4) fun (d : Int × Bool) => Option.bind (g_AZ 44739243 d.1 d.2) fun (d : Int ×
 Bool) => c (x0, x1, d.1, IntKind.wrap .i64 (x3 + 1), d.2) else bif x3 == 2 then Option.bind (g_AC x1 x2 x4) fun (d : Int × Bool) => Option.bind (g_AZ (-1491308) d.1 d.2) fun (d : Int × Bool) => c (x0, x1, d.1, IntKind.wrap .i64 (x3 + 1), d.2) else bif x3 == 1 then Option.bind (g_AC x1 x2 x4) fun (d : Int ×
 Bool) => Option.bind (g_AZ 26631 d.1 d.2) fun (d : Int × Bool) => c (x0, x1, d.1, IntKind.wrap .i64 (x3 + 1), d.2) else Option.bind (g_AC x1 x2 x4) fun (d : Int × Bool) => Option.bind (g_AZ (-296) d.1 d.2) fun (d : Int × Bool) => c (x0, x1, d.1, IntKind.wrap .i64 (x3 + 1), d.2) else none else
 x (x0, x1, x2, x3, decide (x3 < 6), x4)
section
open Go.Ab.Rdr
def Q_O_0 := (st (cons (ar (rc (cptr (nat 0) (ok' (nat 0)) (nat 1)))) (cons aund (cons aund (cons aund (cons aund (cons (ar (rc (cf (fi .i64 hole)))) (cons (ar (rc (cptr (nat 1) (ok' (nat 0)) (nat 1)))) (cons aund (cons (ar (rc (cf (fi .i64 hole)))) (cons (ar (rc (csl (nat 2) (ok' (nat 0)) (szl (nat 6)) (nat 1) (bool true)))) (cons (ar (rc (cf (fi .i64 hole)))) (cons (ar (rc (cf (fi .i64 hole)))) (cons aund (cons aund (cons aund (cons aund (cons aund (cons aund (cons aund (cons aund (cons aund (cons aund (cons aund (cons aund (cons aund (cons aund (cons aund (cons aund (cons aund (cons aund (cons aund (cons aund (cons aund (cons aund (cons aund (cons aund (cons aund (cons aund (cons aund (cons aund (cons aund (cons aund (cons aund (cons aund (cons aund (cons aund (cons aund (cons aund (cons aund (cons aund (cons aund (cons aund (cons aund (cons aund (cons aund (cons aund (cons aund (cons aund (cons aund (cons aund (cons aund (cons aund (cons aund (cons aund (cons aund (cons aund (cons aund (cons aund (cons aund (cons aund (cons aund (cons aund (cons aund (cons aund (cons aund (cons aund (cons aund (cons aund (cons aund (cons aund (cons aund (cons aund (cons aund (cons aund (cons aund (cons aund (cons aund (cons aund (cons aund (cons aund (cons aund (cons aund (cons aund (cons aund (cons aund (cons aund (cons aund (cons aund (cons aund (cons aund (cons aund (cons aund (cons aund (cons aund nil)))))))))))))))))))))))))))))))))))))))))))))))))))))))))))))))))))))))))))))))))))))))))))))))))))))))) (cons (some' (cons (gc (cf (fb hole))) nil)) (cons (some' (cons (gc (cf (fb (bool false)))) nil)) (cons (some' (cons (gc (cf (fi .i64 (int (-296))))) (cons (gc (cf (fi .i64 (int 26631)))) (cons (gc (cf (fi .i64 (int (-1491308))))) (cons (gc (cf (fi .i64 (int 44739243)))) (cons (gc (cf (fi .i64 (int (-536870912))))) (cons (gc (cf (fi .i64 (int 1073741824)))) nil))))))) nil))) (cons (nat 0) nil))
end
theorem q_O_0 : ∀ b, (Q_O_0).em b = St.mk [AV.r (RV.c (CV.ptr 0 (Off.k 0) 1)), und, und, und, und, AV.r (RV.c (fI b.1.c4.2.1)), AV.r (RV.c (CV.ptr 1 (Off.k 0) 1)), und, AV.r (RV.c (fI b.1.c8.1)), AV.r (RV.c (CV.sl 2 (Off.k 0) (Sz.l 6) 1 true)), AV.r (RV.c (fI b.1.c8.2.2.1)), AV.r (RV.c (fI b.1.c8.2.2.2.1)),
 und, und, und, und, und, und, und, und, und, und, und, und, und, und, und, und, und, und, und, und, und, und, und, und, und, und, und, und, und, und, und, und, und, und, und, und, und, und, und, und, und, und, und, und, und, und, und, und, und, und, und, und, und, und, und, und, und, und, und, und, und,
 und, und, und, und, und, und, und, und, und, und, und, und, und, und, und, und, und, und, und, und, und, und, und, und, und, und, und, und, und, und, und] [some [sB b.2.1.1.1], some [sB false], some [Sg.c (fI (-296)), Sg.c (fI 26631), Sg.c (fI (-1491308)), Sg.c (fI 44739243),
 Sg.c (fI (-536870912)), Sg.c (fI 1073741824)]] [0] := fun b => by kernel_rfl
def R_O_0 (l : ∀ {ρ : Type}, (Int × Int × Int × Int × Bool) → ((Int × Int × Int × Int × Bool × Bool) → Option ρ) → Option ρ) {ρ : Type} (s : St) (K : AX → St → Option ρ) : Option ρ := ((Q_O_0).rd s).bind fun b => l (b.1.c4.2.1, b.1.c8.1, b.1.c8.2.2.1, b.1.c8.2.2.2.1, b.2.1.1.1) (fun d => K (AX.ex 0) (St.mk [AV.r (RV.c (CV.ptr 0 (Off.k 0) 1)),
 und, und, und, und, AV.r (RV.c (fI d.1)), AV.r (RV.c (CV.ptr 1 (Off.k 0) 1)), und, AV.r (RV.c (fI d.2.1)), AV.r (RV.c (CV.sl 2 (Off.k 0) (Sz.l 6) 1 true)), AV.r (RV.c (fI d.2.2.1)), AV.r (RV.c (fI d.2.2.2.1)), und, und, und, und, und, und, und, und, und, und, und, und, und, und, und, und, und, und, und,
 und, und, und, und, und, und, und, und, und, und, und, und, und, und, und, AV.r (RV.c (fI d.2.2.2.1)), rB d.c4.1, und, und, und, und, und, und, und, und, und, und, und, und, und, und, und, und, und, und, und, und, und, und, und, und, und, und, und, und, und, und, und, und, und,
 und, und, und, und, und, und, und, und, und, und, und, und, und, und, und, und, und, und, und, und, und, und, und] [some [sB d.c4.2], some [sB false], some [Sg.c (fI (-296)), Sg.c (fI 26631), Sg.c (fI (-1491308)), Sg.c (fI 44739243), Sg.c (fI (-536870912)), Sg.c (fI 1073741824)]] [0]))
theorem ms_O_0 {ρ σ : Type} (g_S : t9GS1) (g_AR : t14GS1) (g_AC : t15GS1) (g_AZ : t15GS1) (g_AB : t13GS1) (q : ρ → Option σ) (x0 : Int) (x1 : Int) (x2 : Int) (x3 : Int) (x4 : Bool) (c : (Int × Int × Int × Int × Bool) → Option ρ) (x : (Int × Int × Int × Int × Bool × Bool) → Option ρ) : (S_O_0 g_S g_AR g_AC g_AZ g_AB x0 x1 x2 x3 x4 c x).bind q = S_O_0 g_S g_AR g_AC g_AZ g_AB x0 x1 x2 x3 x4 (fun d => (c d).bind q) (fun d => (x d).bind q) := by
  simp only [S_O_0, bnd_cond, bnd_bind, bnd_none, bnd_sum]
def L_O_0 {ρ : Type} (d : Int × Int × Int × Int × Bool) (k : (Int × Int × Int × Int × Bool × Bool) → Option ρ) : Option ρ := loopK (fun d c x => S_O_0 f_S f_AR f_AC f_AZ f_AB d.1 d.2.1 d.2.2.1 d.2.2.2.1 d.c4 c x) 200 d k
theorem mL_O_0 {ρ σ : Type} (q : ρ → Option σ) (d : Int × Int × Int × Int × Bool) (k : (Int × Int × Int × Int × Bool × Bool) → Option ρ) : (L_O_0 d k).bind q = L_O_0 d fun x => (k x).bind q := loopK_bind q (fun d c x => ms_O_0 f_S f_AR f_AC f_AZ f_AB q d.1 d.2.1 d.2.2.1 d.2.2.2.1 d.c4 c x) k _ d
def S_O_1 {ρ : Type} (g_S : t9GS1) (g_AR : t14GS1) (g_AC : t15GS1) (g_AZ : t15GS1) (g_AB : t13GS1) (x0 : Int) (x1 : Int) (x2 : Int) (x3 : Int) (x4 : Bool) (c : (Int ×
 Int × Int × Int × Bool) → Option ρ) (x : (Int × Int × Int × Int × Bool × Bool) → Option ρ) : Option ρ := bif decide (x3 < 5) then bif inR x3 5 then bif x3 == 4 then Option.bind (g_AC x1 x2 x4) fun (d : Int × Bool) => Option.bind (g_AZ 1073741824 d.1 d.2) fun (d : Int × Bool) => c (x0, x1, d.1, IntKind.wrap .i64 (x3 + 1),
 d.2) else bif x3 == 3 then Option.bind (g_AC x1 x2 x4) fun (d : Int × Bool) => Option.bind (g_AZ (-178956971) d.1 d.2) fun (d : Int × Bool) => c (x0, x1, d.1, IntKind.wrap .i64 (x3 + 1), d.2) else bif x3 == 2 then Option.bind (g_AC x1 x2 x4) fun (d : Int × Bool) => Option.bind (g_AZ 8947849 d.1 d.2) fun (d : Int ×
 Bool) => c (x0, x1, d.1, IntKind.wrap .i64 (x3 + 1), d.2) else bif x3 == 1 then Option.bind (g_AC x1 x2 x4) fun (d : Int × Bool) => Option.bind (g_AZ (-213044) d.1 d.2) fun (d : Int × Bool) => c (x0, x1, d.1, IntKind.wrap .i64 (x3 + 1), d.2) else Option.bind (g_AC x1 x2 x4) fun (d : Int ×
 Bool) => Option.bind (g_AZ 2959 d.1 d.2) fun (d : Int × Bool) => c (x0, x1, d.1, IntKind.wrap .i64 (x3 + 1), d.2) else none else x (x0, x1, x2, x3, decide (x3 < 5), x4)
section
open Go.Ab.Rdr
def Q_O_1 := (st (cons (ar (rc (cptr (nat 0) (ok' (nat 0)) (nat 1)))) (cons aund (cons aund (cons aund (cons aund (cons (ar (rc (cf (fi .i64 hole)))) (cons (ar (rc (cptr (nat 1) (ok' (nat 0)) (nat 1)))) (cons aund (cons aund (cons aund (cons aund (cons aund (cons (ar (rc (cf (fi .i64 hole)))) (cons (ar (rc (csl (nat 2) (ok' (nat 0)) (szl (nat 5)) (nat 1) (bool true)))) (cons (ar (rc (cf (fi .i64 hole)))) (cons (ar (rc (cf (fi .i64 hole)))) (cons aund (cons aund (cons aund (cons aund (cons aund (cons aund (cons aund (cons aund (cons aund (cons aund (cons aund (cons aund (cons aund (cons aund (cons aund (cons aund (cons aund (cons aund (cons aund (cons aund (cons aund (cons aund (cons aund (cons aund (cons aund (cons aund (cons aund (cons aund (cons aund (cons aund (cons aund (cons aund (cons aund (cons aund (cons aund (cons aund (cons aund (cons aund (cons aund (cons aund (cons aund (cons aund (cons aund (cons aund (cons aund (cons aund (cons aund (cons aund (cons aund (cons aund (cons aund (cons aund (cons aund (cons aund (cons aund (cons aund (cons aund (cons aund (cons aund (cons aund (cons aund (cons aund (cons aund (cons aund (cons aund (cons aund (cons aund (cons aund (cons aund (cons aund (cons aund (cons aund (cons aund (cons aund (cons aund (cons aund (cons aund (cons aund (cons aund (cons aund (cons aund (cons aund (cons aund (cons aund (cons aund (cons aund (cons aund (cons aund nil)))))))))))))))))))))))))))))))))))))))))))))))))))))))))))))))))))))))))))))))))))))))))))))))))))))))) (cons (some' (cons (gc (cf (fb hole))) nil)) (cons (some' (cons (gc (cf (fb (bool false)))) nil)) (cons (some' (cons (gc (cf (fi .i64 (int 2959)))) (cons (gc (cf (fi .i64 (int (-213044))))) (cons (gc (cf (fi .i64 (int 8947849)))) (cons (gc (cf (fi .i64 (int (-178956971))))) (cons (gc (cf (fi .i64 (int 1073741824)))) nil)))))) nil))) (cons (nat 0) nil))
end
theorem q_O_1 : ∀ b, (Q_O_1).em b = St.mk [AV.r (RV.c (CV.ptr 0 (Off.k 0) 1)), und, und, und, und, AV.r (RV.c (fI b.1.c4.2.1)), AV.r (RV.c (CV.ptr 1 (Off.k 0) 1)), und, und, und, und, und, AV.r (RV.c (fI b.1.c8.c4.1)), AV.r (RV.c (CV.sl 2 (Off.k 0) (Sz.l 5) 1 true)), AV.r (RV.c (fI b.1.c8.c4.2.2.1)),
 AV.r (RV.c (fI b.1.c8.c4.2.2.2.1)), und, und, und, und, und, und, und, und, und, und, und, und, und, und, und, und, und, und, und, und, und, und, und, und, und, und, und, und, und, und, und, und, und, und, und, und, und, und, und, und, und, und, und, und, und, und, und, und, und, und, und, und, und,
 und, und, und, und, und, und, und, und, und, und, und, und, und, und, und, und, und, und, und, und, und, und, und, und, und, und, und, und, und, und, und, und, und, und, und] [some [sB b.2.1.1.1], some [sB false], some [Sg.c (fI 2959), Sg.c (fI (-213044)), Sg.c (fI 8947849),
 Sg.c (fI (-178956971)), Sg.c (fI 1073741824)]] [0] := fun b => by kernel_rfl
def R_O_1 (l : ∀ {ρ : Type}, (Int × Int × Int × Int × Bool) → ((Int × Int × Int × Int × Bool × Bool) → Option ρ) → Option ρ) {ρ : Type} (s : St) (K : AX → St → Option ρ) : Option ρ := ((Q_O_1).rd s).bind fun b => l (b.1.c4.2.1, b.1.c8.c4.1, b.1.c8.c4.2.2.1, b.1.c8.c4.2.2.2.1, b.2.1.1.1) (fun d => K (AX.ex 2) (St.mk [AV.r (RV.c (CV.ptr 0 (Off.k 0) 1)),
 und, und, und, und, AV.r (RV.c (fI d.1)), AV.r (RV.c (CV.ptr 1 (Off.k 0) 1)), und, und, und, und, und, AV.r (RV.c (fI d.2.1)), AV.r (RV.c (CV.sl 2 (Off.k 0) (Sz.l 5) 1 true)), AV.r (RV.c (fI d.2.2.1)), AV.r (RV.c (fI d.2.2.2.1)), und, und, und, und, und, und, und, und, und, und, und, und, und, und, und,
 und, und, und, und, und, und, und, und, und, und, und, und, und, und, und, und, und, und, und, und, und, und, und, und, und, und, und, und, und, und, und, und, und, und, und, und, und, und, und, und, und, und, und, und, und, und, und, AV.r (RV.c (fI d.2.2.2.1)), rB d.c4.1, und,
 und, und, und, und, und, und, und, und, und, und, und, und, und, und, und, und, und, und, und, und, und, und, und] [some [sB d.c4.2], some [sB false], some [Sg.c (fI 2959), Sg.c (fI (-213044)), Sg.c (fI 8947849), Sg.c (fI (-178956971)), Sg.c (fI 1073741824)]] [0]))
theorem ms_O_1 {ρ σ : Type} (g_S : t9GS1) (g_AR : t14GS1) (g_AC : t15GS1) (g_AZ : t15GS1) (g_AB : t13GS1) (q : ρ → Option σ) (x0 : Int) (x1 : Int) (x2 : Int) (x3 : Int) (x4 : Bool) (c : (Int × Int × Int × Int × Bool) → Option ρ) (x : (Int × Int × Int × Int × Bool × Bool) → Option ρ) : (S_O_1 g_S g_AR g_AC g_AZ g_AB x0 x1 x2 x3 x4 c x).bind q = S_O_1 g_S g_AR g_AC g_AZ g_AB x0 x1 x2 x3 x4 (fun d => (c d).bind q) (fun d => (x d).bind q) := by
  simp only [S_O_1, bnd_cond, bnd_bind, bnd_none, bnd_sum]
def L_O_1 {ρ : Type} (d : Int × Int × Int × Int × Bool) (k : (Int × Int × Int × Int × Bool × Bool) → Option ρ) : Option ρ := loopK (fun d c x => S_O_1 f_S f_AR f_AC f_AZ f_AB d.1 d.2.1 d.2.2.1 d.2.2.2.1 d.c4 c x) 200 d k
theorem mL_O_1 {ρ σ : Type} (q : ρ → Option σ) (d : Int × Int × Int × Int × Bool) (k : (Int × Int × Int × Int × Bool × Bool) → Option ρ) : (L_O_1 d k).bind q = L_O_1 d fun x => (k x).bind q := loopK_bind q (fun d c x => ms_O_1 f_S f_AR f_AC f_AZ f_AB q d.1 d.2.1 d.2.2.1 d.2.2.2.1 d.c4 c x) k _ d
theorem ds_O_0 {ρ : Type} (g_S : t9GS1) (g_AR : t14GS1) (g_AC : t15GS1) (g_AZ : t15GS1) (g_AB : t13GS1) (l_0 : ∀ {ρ : Type}, (Int × Int × Int × Int × Bool) → ((Int ×
 Int × Int × Int × Bool × Bool) → Option ρ) → Option ρ) (l_1 : ∀ {ρ : Type}, (Int × Int × Int × Int × Bool) → ((Int × Int × Int × Int × Bool × Bool) → Option ρ) → Option ρ) (x0 : Int) (x1 : Int) (x2 : Int) (x3 : Int) (x4 : Bool) (c : St → Option ρ) (K : AX → St → Option ρ) : runC Try.prog (envOf [(41,
 F_S g_S), (86, F_AR g_AR), (69, F_AC g_AC), (87, F_AZ g_AZ), (45, F_AB g_AB)]) ⟨[⟨15, u0GS1, []⟩, ⟨25, u1GS1, []⟩], [⟨15, 1, @R_O_0 (@l_0)⟩, ⟨25,
 1, @R_O_1 (@l_1)⟩], [], [], (some ⟨0, u2GS1, []⟩)⟩ (tmpsOf Try.prog 67) 1 200 (loopIn Try.prog 67 15) (St.mk [AV.r (RV.c (CV.ptr 0 (Off.k 0) 1)), und, und, und, und, AV.r (RV.c (fI x0)), AV.r (RV.c (CV.ptr 1 (Off.k 0) 1)),
 und, AV.r (RV.c (fI x1)), AV.r (RV.c (CV.sl 2 (Off.k 0) (Sz.l 6) 1 true)), AV.r (RV.c (fI x2)), AV.r (RV.c (fI x3)), und, und, und, und, und, und, und, und, und, und, und, und, und, und, und, und, und, und, und, und, und, und, und, und, und, und, und, und, und, und, und, und, und, und, und, und, und,
 und, und, und, und, und, und, und, und, und, und, und, und, und, und, und, und, und, und, und, und, und, und, und, und, und, und, und, und, und, und, und, und, und, und, und, und, und, und, und, und, und, und, und, und, und, und, und, und, und, und, und, und, und, und, und] [some [sB x4],
 some [sB false], some [Sg.c (fI (-296)), Sg.c (fI 26631), Sg.c (fI (-1491308)), Sg.c (fI 44739243), Sg.c (fI (-536870912)), Sg.c (fI 1073741824)]] [0]) (next (fun t => t.head 1 ⟨[⟨15, u0GS1, []⟩, ⟨25, u1GS1, []⟩], [⟨15, 1, @R_O_0 (@l_0)⟩, ⟨25, 1, @R_O_1 (@l_1)⟩], [], [], (some ⟨0, u2GS1, []⟩)⟩ (loopIn Try.prog 67 15)) c K) = S_O_0 g_S g_AR g_AC g_AZ g_AB x0 x1 x2 x3 x4 (fun d => c (St.mk [AV.r (RV.c (CV.ptr 0 (Off.k 0) 1)),
 und, und, und, und, AV.r (RV.c (fI d.1)), AV.r (RV.c (CV.ptr 1 (Off.k 0) 1)), und, AV.r (RV.c (fI d.2.1)), AV.r (RV.c (CV.sl 2 (Off.k 0) (Sz.l 6) 1 true)), AV.r (RV.c (fI d.2.2.1)), AV.r (RV.c (fI d.2.2.2.1)), und, und, und, und, und, und, und, und, und, und, und, und, und, und, und, und, und, und, und,
 und, und, und, und, und, und, und, und, und, und, und, und, und, und, und, und, und, und, und, und, und, und, und, und, und, und, und, und, und, und, und, und, und, und, und, und, und, und, und, und, und, und, und, und, und, und, und, und, und, und, und, und, und, und, und, und, und, und, und, und, und,
 und, und, und, und, und, und, und, und, und, und, und, und] [some [sB d.c4], some [sB false], some [Sg.c (fI (-296)), Sg.c (fI 26631), Sg.c (fI (-1491308)), Sg.c (fI 44739243), Sg.c (fI (-536870912)), Sg.c (fI 1073741824)]] [0])) (fun d => K (AX.ex 0) (St.mk [AV.r (RV.c (CV.ptr 0 (Off.k 0) 1)),
 und, und, und, und, AV.r (RV.c (fI d.1)), AV.r (RV.c (CV.ptr 1 (Off.k 0) 1)), und, AV.r (RV.c (fI d.2.1)), AV.r (RV.c (CV.sl 2 (Off.k 0) (Sz.l 6) 1 true)), AV.r (RV.c (fI d.2.2.1)), AV.r (RV.c (fI d.2.2.2.1)), und, und, und, und, und, und, und, und, und, und, und, und, und, und, und, und, und, und, und,
 und, und, und, und, und, und, und, und, und, und, und, und, und, und, und, AV.r (RV.c (fI d.2.2.2.1)), rB d.c4.1, und, und, und, und, und, und, und, und, und, und, und, und, und, und, und, und, und, und, und, und, und, und, und, und, und, und, und, und, und, und, und, und, und,
 und, und, und, und, und, und, und, und, und, und, und, und, und, und, und, und, und, und, und, und, und, und, und] [some [sB d.c4.2], some [sB false], some [Sg.c (fI (-296)), Sg.c (fI 26631), Sg.c (fI (-1491308)), Sg.c (fI 44739243), Sg.c (fI (-536870912)), Sg.c (fI 1073741824)]] [0])) := by kernel_rfl
theorem it_O_0 {ρ : Type} (x0 : Int) (x1 : Int) (x2 : Int) (x3 : Int) (x4 : Bool) (K : AX → St → Option ρ) : iter (fun t => t.head 1 ⟨[⟨15, u0GS1, []⟩, ⟨25, u1GS1, []⟩], [⟨15, 1, @R_O_0 (@L_O_0)⟩, ⟨25, 1, @R_O_1 (@L_O_1)⟩], [], [], (some ⟨0, u2GS1, []⟩)⟩ (loopIn Try.prog 67 15)) (runC Try.prog (envOf [(41, F_S f_S), (86, F_AR f_AR), (69, F_AC f_AC),
 (87, F_AZ f_AZ), (45, F_AB f_AB)]) ⟨[⟨15, u0GS1, []⟩, ⟨25, u1GS1, []⟩], [⟨15, 1, @R_O_0 (@L_O_0)⟩, ⟨25, 1, @R_O_1 (@L_O_1)⟩], [], [], (some ⟨0,
 u2GS1, []⟩)⟩ (tmpsOf Try.prog 67) 1 200 (loopIn Try.prog 67 15)) K 200 (St.mk [AV.r (RV.c (CV.ptr 0 (Off.k 0) 1)), und, und, und, und, AV.r (RV.c (fI x0)), AV.r (RV.c (CV.ptr 1 (Off.k 0) 1)), und, AV.r (RV.c (fI x1)),
 AV.r (RV.c (CV.sl 2 (Off.k 0) (Sz.l 6) 1 true)), AV.r (RV.c (fI x2)), AV.r (RV.c (fI x3)), und, und, und, und, und, und, und, und, und, und, und, und, und, und, und, und, und, und, und, und, und, und, und, und, und, und, und, und, und, und, und, und, und, und, und, und, und, und, und, und, und, und,
 und, und, und, und, und, und, und, und, und, und, und, und, und, und, und, und, und, und, und, und, und, und, und, und, und, und, und, und, und, und, und, und, und, und, und, und, und, und, und, und, und, und, und, und, und, und, und, und, und, und] [some [sB x4], some [sB false],
 some [Sg.c (fI (-296)), Sg.c (fI 26631), Sg.c (fI (-1491308)), Sg.c (fI 44739243), Sg.c (fI (-536870912)), Sg.c (fI 1073741824)]] [0]) = L_O_0 (x0, x1, x2, x3, x4) (fun d => K (AX.ex 0) (St.mk [AV.r (RV.c (CV.ptr 0 (Off.k 0) 1)), und, und, und, und, AV.r (RV.c (fI d.1)), AV.r (RV.c (CV.ptr 1 (Off.k 0) 1)),
 und, AV.r (RV.c (fI d.2.1)), AV.r (RV.c (CV.sl 2 (Off.k 0) (Sz.l 6) 1 true)), AV.r (RV.c (fI d.2.2.1)), AV.r (RV.c (fI d.2.2.2.1)), und, und, und, und, und, und, und, und, und, und, und, und, und, und, und, und, und, und, und, und, und, und, und, und, und, und, und, und, und, und, und, und, und, und,
 AV.r (RV.c (fI d.2.2.2.1)), rB d.c4.1, und, und, und, und, und, und, und, und, und, und, und, und, und, und, und, und, und, und, und, und, und, und, und, und, und, und, und, und, und, und, und, und, und, und, und, und, und, und, und, und, und, und, und, und, und, und, und, und,
 und, und, und, und, und, und, und, und] [some [sB d.c4.2], some [sB false], some [Sg.c (fI (-296)), Sg.c (fI 26631), Sg.c (fI (-1491308)), Sg.c (fI 44739243), Sg.c (fI (-536870912)), Sg.c (fI 1073741824)]] [0])) := iter_loopX (emb := fun (d : Int × Int × Int × Int × Bool) => St.mk [AV.r (RV.c (CV.ptr 0 (Off.k 0) 1)),
 und, und, und, und, AV.r (RV.c (fI d.1)), AV.r (RV.c (CV.ptr 1 (Off.k 0) 1)), und, AV.r (RV.c (fI d.2.1)), AV.r (RV.c (CV.sl 2 (Off.k 0) (Sz.l 6) 1 true)), AV.r (RV.c (fI d.2.2.1)), AV.r (RV.c (fI d.2.2.2.1)), und, und, und, und, und, und, und, und, und, und, und, und, und, und, und, und, und, und, und,
 und, und, und, und, und, und, und, und, und, und, und, und, und, und, und, und, und, und, und, und, und, und, und, und, und, und, und, und, und, und, und, und, und, und, und, und, und, und, und, und, und, und, und, und, und, und, und, und, und, und, und, und, und, und, und, und, und, und, und, und, und,
 und, und, und, und, und, und, und, und, und, und, und, und] [some [sB d.c4], some [sB false], some [Sg.c (fI (-296)), Sg.c (fI 26631), Sg.c (fI (-1491308)), Sg.c (fI 44739243), Sg.c (fI (-536870912)), Sg.c (fI 1073741824)]] [0]) (step := fun d c x => S_O_0 f_S f_AR f_AC f_AZ f_AB d.1 d.2.1 d.2.2.1 d.2.2.2.1 d.c4 c x) (kx := (fun d => K (AX.ex 0) (St.mk [AV.r (RV.c (CV.ptr 0 (Off.k 0) 1)),
 und, und, und, und, AV.r (RV.c (fI d.1)), AV.r (RV.c (CV.ptr 1 (Off.k 0) 1)), und, AV.r (RV.c (fI d.2.1)), AV.r (RV.c (CV.sl 2 (Off.k 0) (Sz.l 6) 1 true)), AV.r (RV.c (fI d.2.2.1)), AV.r (RV.c (fI d.2.2.2.1)), und, und, und, und, und, und, und, und, und, und, und, und, und, und, und, und, und, und, und,
 und, und, und, und, und, und, und, und, und, und, und, und, und, und, und, AV.r (RV.c (fI d.2.2.2.1)), rB d.c4.1, und, und, und, und, und, und, und, und, und, und, und, und, und, und, und, und, und, und, und, und, und, und, und, und, und, und, und, und, und, und, und, und, und,
 und, und, und, und, und, und, und, und, und, und, und, und, und, und, und, und, und, und, und, und, und, und, und] [some [sB d.c4.2], some [sB false], some [Sg.c (fI (-296)), Sg.c (fI 26631), Sg.c (fI (-1491308)), Sg.c (fI 44739243), Sg.c (fI (-536870912)), Sg.c (fI 1073741824)]] [0]))) (fun d c => ds_O_0 f_S f_AR f_AC f_AZ f_AB (@L_O_0) (@L_O_1) d.1 d.2.1 d.2.2.1 d.2.2.2.1 d.c4 c K) 200 (x0,
 x1, x2, x3, x4)
theorem so_O_0 [Amb] : ∀ kk, SumOK Try.prog (envOf [(41, F_S f_S), (86, F_AR f_AR), (69, F_AC f_AC), (87, F_AZ f_AZ), (45, F_AB f_AB)]) ⟨[⟨15, u0GS1, []⟩, ⟨25, u1GS1, []⟩], [⟨15, 1, @R_O_0 (@L_O_0)⟩, ⟨25, 1, @R_O_1 (@L_O_1)⟩], [], [], (some ⟨0, u2GS1, []⟩)⟩ (tmpsOf Try.prog 67) kk 200 (loopIn Try.prog 67 15) := SumOK.of (id := 15) (k0 := 1) (run := @R_O_0 (@L_O_0)) (by kernel_rfl) fun s K r hr => by
    unfold R_O_0 at hr
    obtain ⟨b, hb, hr1⟩ := Option.bind_eq_some_iff.1 hr
    have e := ((Q_O_0).ok s b hb).trans (q_O_0 b)
    subst e
    exact ⟨200, (it_O_0 b.1.c4.2.1 b.1.c8.1 b.1.c8.2.2.1 b.1.c8.2.2.2.1 b.2.1.1.1 K).trans hr1⟩
theorem ds_O_1 {ρ : Type} (g_S : t9GS1) (g_AR : t14GS1) (g_AC : t15GS1) (g_AZ : t15GS1) (g_AB : t13GS1) (l_0 : ∀ {ρ : Type}, (Int × Int × Int × Int × Bool) → ((Int ×
 Int × Int × Int × Bool × Bool) → Option ρ) → Option ρ) (l_1 : ∀ {ρ : Type}, (Int × Int × Int × Int × Bool) → ((Int × Int × Int × Int × Bool × Bool) → Option ρ) → Option ρ) (x0 : Int) (x1 : Int) (x2 : Int) (x3 : Int) (x4 : Bool) (c : St → Option ρ) (K : AX → St → Option ρ) : runC Try.prog (envOf [(41,
 F_S g_S), (86, F_AR g_AR), (69, F_AC g_AC), (87, F_AZ g_AZ), (45, F_AB g_AB)]) ⟨[⟨15, u0GS1, []⟩, ⟨25, u1GS1, []⟩], [⟨15, 1, @R_O_0 (@l_0)⟩, ⟨25,
 1, @R_O_1 (@l_1)⟩], [], [], (some ⟨0, u2GS1, []⟩)⟩ (tmpsOf Try.prog 67) 1 200 (loopIn Try.prog 67 25) (St.mk [AV.r (RV.c (CV.ptr 0 (Off.k 0) 1)), und, und, und, und, AV.r (RV.c (fI x0)), AV.r (RV.c (CV.ptr 1 (Off.k 0) 1)),
 und, und, und, und, und, AV.r (RV.c (fI x1)), AV.r (RV.c (CV.sl 2 (Off.k 0) (Sz.l 5) 1 true)), AV.r (RV.c (fI x2)), AV.r (RV.c (fI x3)), und, und, und, und, und, und, und, und, und, und, und, und, und, und, und, und, und, und, und, und, und, und, und, und, und, und, und, und, und, und, und, und, und,
 und, und, und, und, und, und, und, und, und, und, und, und, und, und, und, und, und, und, und, und, und, und, und, und, und, und, und, und, und, und, und, und, und, und, und, und, und, und, und, und, und, und, und, und, und, und, und, und, und, und, und, und, und, und, und] [some [sB x4],
 some [sB false], some [Sg.c (fI 2959), Sg.c (fI (-213044)), Sg.c (fI 8947849), Sg.c (fI (-178956971)), Sg.c (fI 1073741824)]] [0]) (next (fun t => t.head 1 ⟨[⟨15, u0GS1, []⟩, ⟨25, u1GS1, []⟩], [⟨15, 1, @R_O_0 (@l_0)⟩, ⟨25, 1, @R_O_1 (@l_1)⟩], [], [], (some ⟨0, u2GS1, []⟩)⟩ (loopIn Try.prog 67 25)) c K) = S_O_1 g_S g_AR g_AC g_AZ g_AB x0 x1 x2 x3 x4 (fun d => c (St.mk [AV.r (RV.c (CV.ptr 0 (Off.k 0) 1)),
 und, und, und, und, AV.r (RV.c (fI d.1)), AV.r (RV.c (CV.ptr 1 (Off.k 0) 1)), und, und, und, und, und, AV.r (RV.c (fI d.2.1)), AV.r (RV.c (CV.sl 2 (Off.k 0) (Sz.l 5) 1 true)), AV.r (RV.c (fI d.2.2.1)), AV.r (RV.c (fI d.2.2.2.1)), und, und, und, und, und, und, und, und, und, und, und, und, und, und, und,
 und, und, und, und, und, und, und, und, und, und, und, und, und, und, und, und, und, und, und, und, und, und, und, und, und, und, und, und, und, und, und, und, und, und, und, und, und, und, und, und, und, und, und, und, und, und, und, und, und, und, und, und, und, und, und, und, und, und, und, und, und,
 und, und, und, und, und, und, und, und, und, und, und, und] [some [sB d.c4], some [sB false], some [Sg.c (fI 2959), Sg.c (fI (-213044)), Sg.c (fI 8947849), Sg.c (fI (-178956971)), Sg.c (fI 1073741824)]] [0])) (fun d => K (AX.ex 2) (St.mk [AV.r (RV.c (CV.ptr 0 (Off.k 0) 1)),
 und, und, und, und, AV.r (RV.c (fI d.1)), AV.r (RV.c (CV.ptr 1 (Off.k 0) 1)), und, und, und, und, und, AV.r (RV.c (fI d.2.1)), AV.r (RV.c (CV.sl 2 (Off.k 0) (Sz.l 5) 1 true)), AV.r (RV.c (fI d.2.2.1)), AV.r (RV.c (fI d.2.2.2.1)), und, und, und, und, und, und, und, und, und, und, und, und, und, und, und,
 und, und, und, und, und, und, und, und, und, und, und, und, und, und, und, und, und, und, und, und, und, und, und, und, und, und, und, und, und, und, und, und, und, und, und, und, und, und, und, und, und, und, und, und, und, und, und, AV.r (RV.c (fI d.2.2.2.1)), rB d.c4.1, und,
 und, und, und, und, und, und, und, und, und, und, und, und, und, und, und, und, und, und, und, und, und, und, und] [some [sB d.c4.2], some [sB false], some [Sg.c (fI 2959), Sg.c (fI (-213044)), Sg.c (fI 8947849), Sg.c (fI (-178956971)), Sg.c (fI 1073741824)]] [0])) := by kernel_rfl
theorem it_O_1 {ρ : Type} (x0 : Int) (x1 : Int) (x2 : Int) (x3 : Int) (x4 : Bool) (K : AX → St → Option ρ) : iter (fun t => t.head 1 ⟨[⟨15, u0GS1, []⟩, ⟨25, u1GS1, []⟩], [⟨15, 1, @R_O_0 (@L_O_0)⟩, ⟨25, 1, @R_O_1 (@L_O_1)⟩], [], [], (some ⟨0, u2GS1, []⟩)⟩ (loopIn Try.prog 67 25)) (runC Try.prog (envOf [(41, F_S f_S), (86, F_AR f_AR), (69, F_AC f_AC),
 (87, F_AZ f_AZ), (45, F_AB f_AB)]) ⟨[⟨15, u0GS1, []⟩, ⟨25, u1GS1, []⟩], [⟨15, 1, @R_O_0 (@L_O_0)⟩, ⟨25, 1, @R_O_1 (@L_O_1)⟩], [], [], (some ⟨0,
 u2GS1, []⟩)⟩ (tmpsOf Try.prog 67) 1 200 (loopIn Try.prog 67 25)) K 200 (St.mk [AV.r (RV.c (CV.ptr 0 (Off.k 0) 1)), und, und, und, und, AV.r (RV.c (fI x0)), AV.r (RV.c (CV.ptr 1 (Off.k 0) 1)), und, und, und,
 und, und, AV.r (RV.c (fI x1)), AV.r (RV.c (CV.sl 2 (Off.k 0) (Sz.l 5) 1 true)), AV.r (RV.c (fI x2)), AV.r (RV.c (fI x3)), und, und, und, und, und, und, und, und, und, und, und, und, und, und, und, und, und, und, und, und, und, und, und, und, und, und, und, und, und, und, und, und, und, und, und, und,
 und, und, und, und, und, und, und, und, und, und, und, und, und, und, und, und, und, und, und, und, und, und, und, und, und, und, und, und, und, und, und, und, und, und, und, und, und, und, und, und, und, und, und, und, und, und, und, und, und, und, und, und] [some [sB x4], some [sB false],
 some [Sg.c (fI 2959), Sg.c (fI (-213044)), Sg.c (fI 8947849), Sg.c (fI (-178956971)), Sg.c (fI 1073741824)]] [0]) = L_O_1 (x0, x1, x2, x3, x4) (fun d => K (AX.ex 2) (St.mk [AV.r (RV.c (CV.ptr 0 (Off.k 0) 1)), und, und, und, und, AV.r (RV.c (fI d.1)), AV.r (RV.c (CV.ptr 1 (Off.k 0) 1)), und, und, und,
 und, und, AV.r (RV.c (fI d.2.1)), AV.r (RV.c (CV.sl 2 (Off.k 0) (Sz.l 5) 1 true)), AV.r (RV.c (fI d.2.2.1)), AV.r (RV.c (fI d.2.2.2.1)), und, und, und, und, und, und, und, und, und, und, und, und, und, und, und, und, und, und, und, und, und, und, und, und, und, und, und, und, und, und, und, und, und,
 und, und, und, und, und, und, und, und, und, und, und, und, und, und, und, und, und, und, und, und, und, und, und, und, und, und, und, und, und, AV.r (RV.c (fI d.2.2.2.1)), rB d.c4.1, und, und, und, und, und, und, und, und, und, und, und, und, und, und, und, und, und, und, und,
 und, und, und, und, und] [some [sB d.c4.2], some [sB false], some [Sg.c (fI 2959), Sg.c (fI (-213044)), Sg.c (fI 8947849), Sg.c (fI (-178956971)), Sg.c (fI 1073741824)]] [0])) := iter_loopX (emb := fun (d : Int × Int × Int × Int × Bool) => St.mk [AV.r (RV.c (CV.ptr 0 (Off.k 0) 1)),
 und, und, und, und, AV.r (RV.c (fI d.1)), AV.r (RV.c (CV.ptr 1 (Off.k 0) 1)), und, und, und, und, und, AV.r (RV.c (fI d.2.1)), AV.r (RV.c (CV.sl 2 (Off.k 0) (Sz.l 5) 1 true)), AV.r (RV.c (fI d.2.2.1)), AV.r (RV.c (fI d.2.2.2.1)), und, und, und, und, und, und, und, und, und, und, und, und, und, und, und,
 und, und, und, und, und, und, und, und, und, und, und, und, und, und, und, und, und, und, und, und, und, und, und, und, und, und, und, und, und, und, und, und, und, und, und, und, und, und, und, und, und, und, und, und, und, und, und, und, und, und, und, und, und, und, und, und, und, und, und, und, und,
 und, und, und, und, und, und, und, und, und, und, und, und] [some [sB d.c4], some [sB false], some [Sg.c (fI 2959), Sg.c (fI (-213044)), Sg.c (fI 8947849), Sg.c (fI (-178956971)), Sg.c (fI 1073741824)]] [0]) (step := fun d c x => S_O_1 f_S f_AR f_AC f_AZ f_AB d.1 d.2.1 d.2.2.1 d.2.2.2.1 d.c4 c x) (kx := (fun d => K (AX.ex 2) (St.mk [AV.r (RV.c (CV.ptr 0 (Off.k 0) 1)),
 und, und, und, und, AV.r (RV.c (fI d.1)), AV.r (RV.c (CV.ptr 1 (Off.k 0) 1)), und, und, und, und, und, AV.r (RV.c (fI d.2.1)), AV.r (RV.c (CV.sl 2 (Off.k 0) (Sz.l 5) 1 true)), AV.r (RV.c (fI d.2.2.1)), AV.r (RV.c (fI d.2.2.2.1)), und, und, und, und, und, und, und, und, und, und, und, und, und, und, und,
 und, und, und, und, und, und, und, und, und, und, und, und, und, und, und, und, und, und, und, und, und, und, und, und, und, und, und, und, und, und, und, und, und, und, und, und, und, und, und, und, und, und, und, und, und, und, und, AV.r (RV.c (fI d.2.2.2.1)), rB d.c4.1, und,
 und, und, und, und, und, und, und, und, und, und, und, und, und, und, und, und, und, und, und, und, und, und, und] [some [sB d.c4.2], some [sB false], some [Sg.c (fI 2959), Sg.c (fI (-213044)), Sg.c (fI 8947849), Sg.c (fI (-178956971)), Sg.c (fI 1073741824)]] [0]))) (fun d c => ds_O_1 f_S f_AR f_AC f_AZ f_AB (@L_O_0) (@L_O_1) d.1 d.2.1 d.2.2.1 d.2.2.2.1 d.c4 c K) 200 (x0,
 x1, x2, x3, x4)
theorem so_O_1 [Amb] : ∀ kk, SumOK Try.prog (envOf [(41, F_S f_S), (86, F_AR f_AR), (69, F_AC f_AC), (87, F_AZ f_AZ), (45, F_AB f_AB)]) ⟨[⟨15, u0GS1, []⟩, ⟨25, u1GS1, []⟩], [⟨15, 1, @R_O_0 (@L_O_0)⟩, ⟨25, 1, @R_O_1 (@L_O_1)⟩], [], [], (some ⟨0, u2GS1, []⟩)⟩ (tmpsOf Try.prog 67) kk 200 (loopIn Try.prog 67 25) := SumOK.of (id := 25) (k0 := 1) (run := @R_O_1 (@L_O_1)) (by kernel_rfl) fun s K r hr => by
    unfold R_O_1 at hr
    obtain ⟨b, hb, hr1⟩ := Option.bind_eq_some_iff.1 hr
    have e := ((Q_O_1).ok s b hb).trans (q_O_1 b)
    subst e
    exact ⟨200, (it_O_1 b.1.c4.2.1 b.1.c8.c4.1 b.1.c8.c4.2.2.1 b.1.c8.c4.2.2.2.1 b.2.1.1.1 K).trans hr1⟩
def K_O {ρ : Type} (g_S : t9GS1) (g_AR : t14GS1) (g_AC : t15GS1) (g_AZ : t15GS1) (g_AB : t13GS1) (l_0 : ∀ {ρ : Type}, (Int × Int × Int × Int × Bool) → ((Int × Int ×
 Int × Int × Bool × Bool) → Option ρ) → Option ρ) (l_1 : ∀ {ρ : Type}, (Int × Int × Int × Int × Bool) → ((Int × Int × Int × Int × Bool × Bool) → Option ρ) → Option ρ) (x0 : Int) (x1 : Bool) (k : (Int × Bool) → Option ρ) : Option ρ := Option.bind (g_S x0 x1) fun (d : Int × Bool) => Option.bind (g_AR d.1) fun (d_1 : Int) => bif decide (d_1 > 1686629713) then
 bif decide (IntKind.wrap .i64 (3373259426 - d_1) < 0) then bif decide (IntKind.wrap .i64 (0 - IntKind.wrap .i64 (3373259426 - d_1)) > 843314857) then Option.bind (g_AC (IntKind.wrap .i64 (1686629713 - IntKind.wrap .i64 (0 - IntKind.wrap .i64 (3373259426 - d_1)))) (IntKind.wrap .i64 (1686629713 - IntKind.wrap .i64 (0 - IntKind.wrap .i64 (3373259426 - d_1)))) d.2) fun (d : Int ×
 Bool) => l_0 (IntKind.wrap .i64 (3373259426 - d_1), d.1, 2, 0, d.2) fun (d : Int × Int × Int × Int × Bool × Bool) => bif decide (d.1 < 0) then Option.bind (g_AB (IntKind.wrap .i64 (0 - d.2.2.1)) (-1073741824) 1073741824 false) fun (d_2 : Int × Bool) => k (d_2.1, d.c4.2) else Option.bind (g_AB d.2.2.1 (-1073741824) 1073741824 false) fun (d_2 : Int ×
 Bool) => k (d_2.1, d.c4.2) else Option.bind (g_AC (IntKind.wrap .i64 (3373259426 - d_1)) (IntKind.wrap .i64 (3373259426 - d_1)) d.2) fun (d : Int × Bool) => l_1 (IntKind.wrap .i64 (3373259426 - d_1), d.1, -27, 0, d.2) fun (d : Int × Int × Int × Int × Bool × Bool) => Option.bind (g_AC d.1 d.2.2.1 d.c4.2) fun (d : Int ×
 Bool) => Option.bind (g_AB d.1 (-1073741824) 1073741824 false) fun (d_2 : Int × Bool) => k (d_2.1, d.2) else bif decide (IntKind.wrap .i64 (3373259426 - d_1) > 843314857) then Option.bind (g_AC (IntKind.wrap .i64 (1686629713 - IntKind.wrap .i64 (3373259426 - d_1))) (IntKind.wrap .i64 (1686629713 - IntKind.wrap .i64 (3373259426 - d_1))) d.2) fun (d : Int ×
 Bool) => l_0 (IntKind.wrap .i64 (3373259426 - d_1), d.1, 2, 0, d.2) fun (d : Int × Int × Int × Int × Bool × Bool) => bif decide (d.1 < 0) then Option.bind (g_AB (IntKind.wrap .i64 (0 - d.2.2.1)) (-1073741824) 1073741824 false) fun (d_2 : Int × Bool) => k (d_2.1, d.c4.2) else Option.bind (g_AB d.2.2.1 (-1073741824) 1073741824 false) fun (d_2 : Int ×
 Bool) => k (d_2.1, d.c4.2) else Option.bind (g_AC (IntKind.wrap .i64 (3373259426 - d_1)) (IntKind.wrap .i64 (3373259426 - d_1)) d.2) fun (d : Int × Bool) => l_1 (IntKind.wrap .i64 (3373259426 - d_1), d.1, -27, 0, d.2) fun (d : Int × Int × Int × Int × Bool × Bool) => Option.bind (g_AC d.1 d.2.2.1 d.c4.2) fun (d : Int ×
 Bool) => Option.bind (g_AB d.1 (-1073741824) 1073741824 false) fun (d_2 : Int × Bool) => k (d_2.1, d.2) else bif decide (d_1 < -1686629713) then bif decide (IntKind.wrap .i64 (-3373259426 - d_1) < 0) then bif decide (IntKind.wrap .i64 (0 - IntKind.wrap .i64 (-3373259426 - d_1)) > 843314857) then
 Option.bind (g_AC (IntKind.wrap .i64 (1686629713 - IntKind.wrap .i64 (0 - IntKind.wrap .i64 (-3373259426 - d_1)))) (IntKind.wrap .i64 (1686629713 - IntKind.wrap .i64 (0 - IntKind.wrap .i64 (-3373259426 - d_1)))) d.2) fun (d : Int × Bool) => l_0 (IntKind.wrap .i64 (-3373259426 - d_1),
 d.1, 2, 0, d.2) fun (d : Int × Int × Int × Int × Bool × Bool) => bif decide (d.1 < 0) then Option.bind (g_AB (IntKind.wrap .i64 (0 - d.2.2.1)) (-1073741824) 1073741824 false) fun (d_2 : Int × Bool) => k (d_2.1, d.c4.2) else Option.bind (g_AB d.2.2.1 (-1073741824) 1073741824 false) fun (d_2 : Int ×
 Bool) => k (d_2.1, d.c4.2) else Option.bind (g_AC (IntKind.wrap .i64 (-3373259426 - d_1)) (IntKind.wrap .i64 (-3373259426 - d_1)) d.2) fun (d : Int × Bool) => l_1 (IntKind.wrap .i64 (-3373259426 - d_1), d.1, -27, 0, d.2) fun (d : Int × Int × Int × Int × Bool × Bool) => Option.bind (g_AC d.1 d.2.2.1 d.c4.2) fun (d : Int ×
 Bool) => Option.bind (g_AB d.1 (-1073741824) 1073741824 false) fun (d_2 : Int × Bool) => k (d_2.1, d.2) else bif decide (IntKind.wrap .i64 (-3373259426 - d_1) > 843314857) then Option.bind (g_AC (IntKind.wrap .i64 (1686629713 - IntKind.wrap .i64 (-3373259426 - d_1))) (IntKind.wrap .i64 (1686629713 - IntKind.wrap .i64 (-3373259426 - d_1))) d.2) fun (d : Int ×
 Bool) => l_0 (IntKind.wrap .i64 (-3373259426 - d_1), d.1, 2, 0, d.2) fun (d : Int × Int × Int × Int × Bool × Bool) => bif decide (d.1 < 0) then Option.bind (g_AB (IntKind.wrap .i64 (0 - d.2.2.1)) (-1073741824) 1073741824 false) fun (d_2 : Int × Bool) => k (d_2.1, d.c4.2) else Option.bind (g_AB d.2.2.1 (-1073741824) 1073741824 false) fun (d_2 : Int ×
 Bool) => k (d_2.1, d.c4.2) else Option.bind (g_AC (IntKind.wrap .i64 (-3373259426 - d_1)) (IntKind.wrap .i64 (-3373259426 - d_1)) d.2) fun (d : Int × Bool) => l_1 (IntKind.wrap .i64 (-3373259426 - d_1), d.1, -27, 0, d.2) fun (d : Int × Int × Int × Int × Bool × Bool) => Option.bind (g_AC d.1 d.2.2.1 d.c4.2) fun (d : Int ×
 Bool) => Option.bind (g_AB d.1 (-1073741824) 1073741824 false) fun (d_2 : Int × Bool) => k (d_2.1, d.2) else bif decide (d_1 < 0) then bif decide (IntKind.wrap .i64 (0 - d_1) > 843314857) then Option.bind (g_AC (IntKind.wrap .i64 (1686629713 - IntKind.wrap .i64 (0 - d_1))) (IntKind.wrap .i64 (1686629713 - IntKind.wrap .i64 (0 - d_1))) d.2) fun (d : Int ×
 Bool) => l_0 (d_1, d.1, 2, 0, d.2) fun (d : Int × Int × Int × Int × Bool × Bool) => bif decide (d.1 < 0) then Option.bind (g_AB (IntKind.wrap .i64 (0 - d.2.2.1)) (-1073741824) 1073741824 false) fun (d_2 : Int × Bool) => k (d_2.1, d.c4.2) else Option.bind (g_AB d.2.2.1 (-1073741824) 1073741824 false) fun (d_2 : Int ×
 Bool) => k (d_2.1, d.c4.2) else Option.bind (g_AC d_1 d_1 d.2) fun (d : Int × Bool) => l_1 (d_1, d.1, -27, 0, d.2) fun (d : Int × Int × Int × Int × Bool × Bool) => Option.bind (g_AC d.1 d.2.2.1 d.c4.2) fun (d : Int × Bool) => Option.bind (g_AB d.1 (-1073741824) 1073741824 false) fun (d_2 : Int × Bool) => k (d_2.1,
 d.2) else bif decide (d_1 > 843314857) then Option.bind (g_AC (IntKind.wrap .i64 (1686629713 - d_1)) (IntKind.wrap .i64 (1686629713 - d_1)) d.2) fun (d : Int × Bool) => l_0 (d_1, d.1, 2, 0, d.2) fun (d : Int × Int × Int × Int × Bool × Bool) => bif decide (d.1 < 0) then Option.bind (g_AB (IntKind.wrap .i64 (0 - d.2.2.1)) (-1073741824) 1073741824 false) fun (d_2 : Int ×
 Bool) => k (d_2.1, d.c4.2) else Option.bind (g_AB d.2.2.1 (-1073741824) 1073741824 false) fun (d_2 : Int × Bool) => k (d_2.1, d.c4.2) else Option.bind (g_AC d_1 d_1 d.2) fun (d : Int × Bool) => l_1 (d_1, d.1, -27, 0, d.2) fun (d : Int × Int × Int × Int × Bool × Bool) => Option.bind (g_AC d.1 d.2.2.1 d.c4.2) fun (d : Int ×
 Bool) => Option.bind (g_AB d.1 (-1073741824) 1073741824 false) fun (d_2 : Int × Bool) => k (d_2.1, d.2)
def f_O (x0 : Int) (x1 : Bool) : Option (Int × Bool) := K_O f_S f_AR f_AC f_AZ f_AB (@L_O_0) (@L_O_1) x0 x1 some
section
open Go.Ab.Rdr
def QA_O := ((pair (cons (ar (rc (cptr (nat 0) (ok' (nat 0)) (nat 1)))) (cons (ar (rc (cf (fi .i64 hole)))) nil)) (cons (cons (gc (cf (fb hole))) nil) nil)) : Rdr (List AV × List Blk) _)
end
def F_O (f : (Int) → (Bool) → Option (Int × Bool)) : Sem1 := fun args h => match (QA_O).rd (args, h) with
  | some b => .opt (f b.1.2.1 b.2.1.1) fun (d : Int × Bool) => .leaf (Res.mk (AV.r (RV.c (fI d.1))) [Ch.set [sB d.2]] [])
  | none => .fail
theorem d_O (g_S : t9GS1) (g_AR : t14GS1) (g_AC : t15GS1) (g_AZ : t15GS1) (g_AB : t13GS1) (l_0 : ∀ {ρ : Type}, (Int × Int × Int × Int × Bool) → ((Int × Int × Int ×
 Int × Bool × Bool) → Option ρ) → Option ρ) (l_1 : ∀ {ρ : Type}, (Int × Int × Int × Int × Bool) → ((Int × Int × Int × Int × Bool × Bool) → Option ρ) → Option ρ) (x0 : Int) (x1 : Bool) : den Try.prog (envOf [(41, F_S g_S), (86, F_AR g_AR), (69, F_AC g_AC), (87, F_AZ g_AZ), (45, F_AB g_AB)]) ⟨[⟨15, u0GS1, []⟩, ⟨25, u1GS1, []⟩], [⟨15, 1, @R_O_0 (@l_0)⟩, ⟨25, 1, @R_O_1 (@l_1)⟩], [], [], (some ⟨0, u2GS1, []⟩)⟩ 200 67 [.r (.c (.ptr 0 (.k 0) 1)), rI x0] [[.c (.f (.b x1))]] = K_O g_S g_AR g_AC g_AZ g_AB (@l_0) (@l_1) x0 x1 (fun (d : Int × Bool) => some (Res.mk (AV.r (RV.c (fI d.1))) [Ch.set [sB d.2]] [])) := by kernel_rfl
theorem m_O {ρ σ : Type} (q : ρ → Option σ) (g_S : t9GS1) (g_AR : t14GS1) (g_AC : t15GS1) (g_AZ : t15GS1) (g_AB : t13GS1) (l_0 : ∀ {ρ : Type}, (Int × Int × Int × Int × Bool) → ((Int × Int × Int × Int × Bool × Bool) → Option ρ) → Option ρ) (l_1 : ∀ {ρ : Type}, (Int × Int × Int × Int × Bool) → ((Int × Int × Int × Int × Bool × Bool) → Option ρ) → Option ρ) (hl_0 : ∀ {ρ σ : Type} (q : ρ → Option σ) (d : Int × Int × Int × Int × Bool) (k : (Int × Int × Int × Int × Bool × Bool) → Option ρ), (l_0 d k).bind q = l_0 d fun x => (k x).bind q) (hl_1 : ∀ {ρ σ : Type} (q : ρ → Option σ) (d : Int × Int × Int × Int × Bool) (k : (Int × Int × Int × Int × Bool × Bool) → Option ρ), (l_1 d k).bind q = l_1 d fun x => (k x).bind q) (x0 : Int) (x1 : Bool) (k : (Int × Bool) → Option ρ) : (K_O g_S g_AR g_AC g_AZ g_AB (@l_0) (@l_1) x0 x1 k).bind q = K_O g_S g_AR g_AC g_AZ g_AB (@l_0) (@l_1) x0 x1 (fun d => (k d).bind q) := by
  simp only [K_O, bnd_cond, bnd_bind, bnd_none, bnd_sum, hl_0, hl_1]
theorem qa_O : ∀ b, (QA_O).em b = ([.r (.c (.ptr 0 (.k 0) 1)), rI b.1.2.1], [[.c (.f (.b b.2.1.1))]]) := fun b => by kernel_rfl
theorem e_O {f : (Int) → (Bool) → Option (Int × Bool)} {args : List AV} {h : List Blk} {r : Res} (hr : (F_O f args h).eval = some r) : ∃ x0 x1, args = [.r (.c (.ptr 0 (.k 0) 1)), rI x0] ∧ h = [[.c (.f (.b x1))]] ∧ (f x0 x1).bind (fun (d : Int × Bool) => some (Res.mk (AV.r (RV.c (fI d.1))) [Ch.set [sB d.2]] [])) = some r := by
  unfold F_O at hr
  split at hr
  · rename_i b hb
    have e := ((QA_O).ok _ _ hb).trans (qa_O b)
    rw [opt_eval2] at hr
    exact ⟨b.1.2.1, b.2.1.1, (Prod.mk.inj e).1, (Prod.mk.inj e).2, hr⟩
  · cases hr
theorem n_O {σ : Type} (q : (Int × Bool) → Option σ) (x0 : Int) (x1 : Bool) : (f_O x0 x1).bind q = K_O f_S f_AR f_AC f_AZ f_AB (@L_O_0) (@L_O_1) x0 x1 q := by
  unfold f_O
  exact m_O q f_S f_AR f_AC f_AZ f_AB (@L_O_0) (@L_O_1) (fun q d k => mL_O_0 q d k) (fun q d k => mL_O_1 q d k) x0 x1 some
theorem s_O [Amb] : Sound Try.prog 67 (F_O f_O) := (inl_sums (l := [(41, F_S f_S), (86, F_AR f_AR), (69, F_AC f_AC), (87, F_AZ f_AZ), (45, F_AB f_AB)]) (.cons s_S (.cons s_AR (.cons s_AC (.cons s_AZ (.cons s_AB (.nil _)))))) mixed (hs := ⟨[⟨15, u0GS1, []⟩, ⟨25, u1GS1, []⟩], [⟨15, 1, @R_O_0 (@L_O_0)⟩, ⟨25, 1, @R_O_1 (@L_O_1)⟩], [], [], (some ⟨0, u2GS1, []⟩)⟩) (lf := 200) (Sums.by (l := [loopIn Try.prog 67 15, loopIn Try.prog 67 25]) (lj := []) (by kernel_rfl) ⟨so_O_0, ⟨so_O_1, trivial⟩⟩ (by kernel_rfl) trivial) (by kernel_rfl)).by (F := F_O f_O) fun args b r hr => by
  obtain ⟨x0, x1, rfl, rfl, hr1⟩ := e_O hr
  exact inl_eval ((d_O f_S f_AR f_AC f_AZ f_AB (@L_O_0) (@L_O_1) x0 x1).trans ((n_O (fun (d : Int × Bool) => some (Res.mk (AV.r (RV.c (fI d.1))) [Ch.set [sB d.2]] [])) x0 x1).symm.trans hr1))

def K_BX {ρ : Type} (g_AR : t14GS1) (g_O : t9GS1) (x0 : Int) (x1 : Bool) (k : (Int × Bool) → Option ρ) : Option ρ := Option.bind (g_AR x0) fun (d : Int) => Option.bind (g_O (IntKind.wrap .i64 (1686629713 + d)) x1) fun (d : Int × Bool) => k (d.1, d.2)
def f_BX (x0 : Int) (x1 : Bool) : Option (Int × Bool) := K_BX f_AR f_O x0 x1 some
section
open Go.Ab.Rdr
def QA_BX := ((pair (cons (ar (rc (cptr (nat 0) (ok' (nat 0)) (nat 1)))) (cons (ar (rc (cf (fi .i64 hole)))) nil)) (cons (cons (gc (cf (fb hole))) nil) nil)) : Rdr (List AV × List Blk) _)
end
def F_BX (f : (Int) → (Bool) → Option (Int × Bool)) : Sem1 := fun args h => match (QA_BX).rd (args, h) with
  | some b => .opt (f b.1.2.1 b.2.1.1) fun (d : Int × Bool) => .leaf (Res.mk (AV.r (RV.c (fI d.1))) [Ch.set [sB d.2]] [])
  | none => .fail
theorem d_BX (g_AR : t14GS1) (g_O : t9GS1) (x0 : Int) (x1 : Bool) : den Try.prog (envOf [(86, F_AR g_AR), (67, F_O g_O)]) ⟨[], [], [], [], none⟩ 200 68 [.r (.c (.ptr 0 (.k 0) 1)), rI x0] [[.c (.f (.b x1))]] = K_BX g_AR g_O x0 x1 (fun (d : Int ×
 Bool) => some (Res.mk (AV.r (RV.c (fI d.1))) [Ch.set [sB d.2]] [])) := by kernel_rfl
theorem m_BX {ρ σ : Type} (q : ρ → Option σ) (g_AR : t14GS1) (g_O : t9GS1) (x0 : Int) (x1 : Bool) (k : (Int × Bool) → Option ρ) : (K_BX g_AR g_O x0 x1 k).bind q = K_BX g_AR g_O x0 x1 (fun d => (k d).bind q) := by
  simp only [K_BX, bnd_cond, bnd_bind, bnd_none, bnd_sum]
theorem qa_BX : ∀ b, (QA_BX).em b = ([.r (.c (.ptr 0 (.k 0) 1)), rI b.1.2.1], [[.c (.f (.b b.2.1.1))]]) := fun b => by kernel_rfl
theorem e_BX {f : (Int) → (Bool) → Option (Int × Bool)} {args : List AV} {h : List Blk} {r : Res} (hr : (F_BX f args h).eval = some r) : ∃ x0 x1, args = [.r (.c (.ptr 0 (.k 0) 1)), rI x0] ∧ h = [[.c (.f (.b x1))]] ∧ (f x0 x1).bind (fun (d : Int × Bool) => some (Res.mk (AV.r (RV.c (fI d.1))) [Ch.set [sB d.2]] [])) = some r := by
  unfold F_BX at hr
  split at hr
  · rename_i b hb
    have e := ((QA_BX).ok _ _ hb).trans (qa_BX b)
    rw [opt_eval2] at hr
    exact ⟨b.1.2.1, b.2.1.1, (Prod.mk.inj e).1, (Prod.mk.inj e).2, hr⟩
  · cases hr
theorem n_BX {σ : Type} (q : (Int × Bool) → Option σ) (x0 : Int) (x1 : Bool) : (f_BX x0 x1).bind q = K_BX f_AR f_O x0 x1 q := by
  unfold f_BX
  exact m_BX q f_AR f_O x0 x1 some
theorem s_BX [Amb] : Sound Try.prog 68 (F_BX f_BX) := (inl_sound (l := [(86, F_AR f_AR), (67, F_O f_O)]) (.cons s_AR (.cons s_O (.nil _))) mixed [] [] 200 (by kernel_rfl)).by (F := F_BX f_BX) fun args b r hr => by
  obtain ⟨x0, x1, rfl, rfl, hr1⟩ := e_BX hr
  exact inl_eval ((d_BX f_AR f_O x0 x1).trans ((n_BX (fun (d : Int × Bool) => some (Res.mk (AV.r (RV.c (fI d.1))) [Ch.set [sB d.2]] [])) x0 x1).symm.trans hr1))

def S_AY_0 {ρ : Type} (g_Al : t16GS1) (g_Ao : t17GS1) (g_AG : GS1g0) (x0 : Int) (x1 : Int) (x2 : Int) (x3 : Int) (x4 : Bool) (c : (Int × Int × Int × Int × Bool) → Option ρ) (x : (Int × Int × Bool × Int × Int × Bool) → Option ρ) : Option ρ := bif decide (x1 ≥ 0) then
 bif !decide (IntKind.wrap .u64 x1 < 0) then Option.bind (g_Al (IntKind.wrap .u64 (Int.ofNat (BitVec.toNat (BitVec.ofInt 64 x0 ||| BitVec.ofInt 64 (IntKind.wrap .u64 (1 * 2 ^ min (Int.toNat (IntKind.wrap .u64 x1)) 64)))))) (IntKind.wrap .u64 (Int.ofNat (BitVec.toNat (BitVec.ofInt 64 x0 ||| BitVec.ofInt 64 (IntKind.wrap .u64 (1 * 2 ^ min (Int.toNat (IntKind.wrap .u64 x1)) 64))))))) fun (d : Int ×
 Int) => Option.bind (g_Ao x2 x3 false d.1 d.2 false) fun (d : Bool) => bif !d then c (IntKind.wrap .u64 (Int.ofNat (BitVec.toNat (BitVec.ofInt 64 x0 ||| BitVec.ofInt 64 (IntKind.wrap .u64 (1 * 2 ^ min (Int.toNat (IntKind.wrap .u64 x1)) 64))))), IntKind.wrap .i64 (x1 - 1),
 x2, x3, x4) else c (x0, IntKind.wrap .i64 (x1 - 1), x2, x3, x4) else none else x (x0, x1, decide (x1 ≥ 0), x2, x3, x4)
section
open Go.Ab.Rdr
def Q_AY_0 := (st (cons aund (cons (ar (rc (cptr (nat 0) (ok' (nat 0)) (nat 3)))) (cons (ar (rc (cptr (nat 1) (ok' (nat 0)) (nat 3)))) (cons (ar (rc (cf (fi .u64 hole)))) (cons (ar (rc (cf (fi .i64 hole)))) (cons aund (cons aund (cons aund (cons aund (cons aund (cons aund (cons aund (cons aund (cons aund (cons aund (cons aund (cons aund (cons aund (cons aund (cons aund (cons aund (cons aund (cons aund (cons aund (cons aund (cons aund (cons aund (cons aund (cons aund (cons aund (cons aund (cons aund (cons aund (cons aund (cons aund (cons aund (cons aund (cons aund (cons aund (cons aund (cons aund (cons aund (cons aund (cons aund (cons aund (cons aund (cons aund (cons aund (cons aund (cons aund (cons aund (cons aund (cons (atup nil) (cons (atup nil) (cons (atup nil) (cons (atup nil) (cons aund (cons aund (cons aund (cons aund (cons aund (cons aund (cons aund (cons aund nil)))))))))))))))))))))))))))))))))))))))))))))))))))))))))))))))) (cons (some' (cons (gc (cf (fi .u64 hole))) (cons (gc (cf (fi .u64 hole))) (cons (gc (cf (fb hole))) nil)))) (cons (some' (cons (gc (cf (fi .u64 (int 0)))) (cons (gc (cf (fi .u64 (int 0)))) (cons (gc (cf (fb (bool false)))) nil)))) nil)) nil)
end
theorem q_AY_0 : ∀ b, (Q_AY_0).em b = St.mk [und, AV.r (RV.c (CV.ptr 0 (Off.k 0) 3)), AV.r (RV.c (CV.ptr 1 (Off.k 0) 3)), rU b.1.2.2.2.1, AV.r (RV.c (fI b.1.c4.1)), und, und, und, und, und, und, und, und, und, und, und, und, und, und, und, und, und, und, und, und, und,
 und, und, und, und, und, und, und, und, und, und, und, und, und, und, und, und, und, und, und, und, und, und, und, und, und, und, AV.tup [], AV.tup [], AV.tup [], AV.tup [], und, und, und, und, und, und, und, und] [some [sU b.2.1.1.1, sU b.2.1.1.2.1,
 sB b.2.1.1.2.2.1], some [sU 0, sU 0, sB false]] [] := fun b => by kernel_rfl
def R_AY_0 (l : ∀ {ρ : Type}, (Int × Int × Int × Int × Bool) → ((Int × Int × Bool × Int × Int × Bool) → Option ρ) → Option ρ) {ρ : Type} (s : St) (K : AX → St → Option ρ) : Option ρ := ((Q_AY_0).rd s).bind fun b => l (b.1.2.2.2.1, b.1.c4.1, b.2.1.1.1, b.2.1.1.2.1, b.2.1.1.2.2.1) (fun d => K (AX.ex 0) (St.mk [und,
 AV.r (RV.c (CV.ptr 0 (Off.k 0) 3)), AV.r (RV.c (CV.ptr 1 (Off.k 0) 3)), rU d.1, AV.r (RV.c (fI d.2.1)), und, und, und, und, und, und, AV.r (RV.c (fI d.2.1)), rB d.2.2.1, und, und, und, und, und, und, und, und, und, und, und, und, und, und, und,
 und, und, und, und, und, und, und, und, und, und, und, und, und, und, und, und, und, und, und, und, und, und, und, und, AV.tup [], AV.tup [], AV.tup [], AV.tup [], und, und, und, und, und, und, und, und] [some [sU d.2.2.2.1, sU d.c4.1, sB d.c4.2],
 some [sU 0, sU 0, sB false]] []))
theorem ms_AY_0 {ρ σ : Type} (g_Al : t16GS1) (g_Ao : t17GS1) (g_AG : GS1g0) (q : ρ → Option σ) (x0 : Int) (x1 : Int) (x2 : Int) (x3 : Int) (x4 : Bool) (c : (Int × Int × Int × Int × Bool) → Option ρ) (x : (Int × Int × Bool × Int × Int × Bool) → Option ρ) : (S_AY_0 g_Al g_Ao g_AG x0 x1 x2 x3 x4 c x).bind q = S_AY_0 g_Al g_Ao g_AG x0 x1 x2 x3 x4 (fun d => (c d).bind q) (fun d => (x d).bind q) := by
  simp only [S_AY_0, bnd_cond, bnd_bind, bnd_none, bnd_sum]
def L_AY_0 {ρ : Type} (d : Int × Int × Int × Int × Bool) (k : (Int × Int × Bool × Int × Int × Bool) → Option ρ) : Option ρ := loopK (fun d c x => S_AY_0 f_Al f_Ao f_AG d.1 d.2.1 d.2.2.1 d.2.2.2.1 d.c4 c x) 200 d k
theorem mL_AY_0 {ρ σ : Type} (q : ρ → Option σ) (d : Int × Int × Int × Int × Bool) (k : (Int × Int × Bool × Int × Int × Bool) → Option ρ) : (L_AY_0 d k).bind q = L_AY_0 d fun x => (k x).bind q := loopK_bind q (fun d c x => ms_AY_0 f_Al f_Ao f_AG q d.1 d.2.1 d.2.2.1 d.2.2.2.1 d.c4 c x) k _ d
theorem ds_AY_0 {ρ : Type} (g_Al : t16GS1) (g_Ao : t17GS1) (g_AG : GS1g0) (l_0 : ∀ {ρ : Type}, (Int × Int × Int × Int × Bool) → ((Int × Int × Bool × Int × Int × Bool) → Option ρ) → Option ρ) (x0 : Int) (x1 : Int) (x2 : Int) (x3 : Int) (x4 : Bool) (c : St →
 Option ρ) (K : AX → St → Option ρ) : runC Try.prog (envOf [(65, F_Al g_Al), (85, F_Ao g_Ao), (66, F_AG g_AG)]) ⟨[⟨3, u3GS1, []⟩], [⟨3, 0, @R_AY_0 (@l_0)⟩], [], [], (some ⟨0, u4GS1, []⟩)⟩ (tmpsOf Try.prog 88) 0 200 (loopIn Try.prog 88 3) (St.mk [und, AV.r (RV.c (CV.ptr 0 (Off.k 0) 3)), AV.r (RV.c (CV.ptr 1 (Off.k 0) 3)), rU x0, AV.r (RV.c (fI x1)), und, und, und, und, und, und, und, und, und, und, und, und, und, und, und,
 und, und, und, und, und, und, und, und, und, und, und, und, und, und, und, und, und, und, und, und, und, und, und, und, und, und, und, und, und, und, und, und, AV.tup [], AV.tup [], AV.tup [], AV.tup [], und, und, und, und, und, und, und, und] [some [sU x2, sU x3,
 sB x4], some [sU 0, sU 0, sB false]] []) (next (fun t => t.head 0 ⟨[⟨3, u3GS1, []⟩], [⟨3, 0, @R_AY_0 (@l_0)⟩], [], [], (some ⟨0, u4GS1, []⟩)⟩ (loopIn Try.prog 88 3)) c K) = S_AY_0 g_Al g_Ao g_AG x0 x1 x2 x3 x4 (fun d => c (St.mk [und, AV.r (RV.c (CV.ptr 0 (Off.k 0) 3)), AV.r (RV.c (CV.ptr 1 (Off.k 0) 3)), rU d.1, AV.r (RV.c (fI d.2.1)),
 und, und, und, und, und, und, und, und, und, und, und, und, und, und, und, und, und, und, und, und, und, und, und, und, und, und, und, und, und, und, und, und, und, und, und, und, und, und, und, und, und, und, und, und, und, und, und, AV.tup [], AV.tup [], AV.tup [], AV.tup [], und, und, und, und, und,
 und, und, und] [some [sU d.2.2.1, sU d.2.2.2.1, sB d.c4], some [sU 0, sU 0, sB false]] [])) (fun d => K (AX.ex 0) (St.mk [und, AV.r (RV.c (CV.ptr 0 (Off.k 0) 3)),
 AV.r (RV.c (CV.ptr 1 (Off.k 0) 3)), rU d.1, AV.r (RV.c (fI d.2.1)), und, und, und, und, und, und, AV.r (RV.c (fI d.2.1)), rB d.2.2.1, und, und, und, und, und, und, und, und, und, und, und, und, und, und, und, und, und, und, und, und, und, und,
 und, und, und, und, und, und, und, und, und, und, und, und, und, und, und, und, und, AV.tup [], AV.tup [], AV.tup [], AV.tup [], und, und, und, und, und, und, und, und] [some [sU d.2.2.2.1, sU d.c4.1, sB d.c4.2], some [sU 0,
 sU 0, sB false]] [])) := by kernel_rfl
theorem it_AY_0 {ρ : Type} (x0 : Int) (x1 : Int) (x2 : Int) (x3 : Int) (x4 : Bool) (K : AX → St → Option ρ) : iter (fun t => t.head 0 ⟨[⟨3, u3GS1, []⟩], [⟨3, 0, @R_AY_0 (@L_AY_0)⟩], [], [], (some ⟨0, u4GS1, []⟩)⟩ (loopIn Try.prog 88 3)) (runC Try.prog (envOf [(65, F_Al f_Al), (85, F_Ao f_Ao), (66, F_AG f_AG)]) ⟨[⟨3, u3GS1, []⟩], [⟨3, 0, @R_AY_0 (@L_AY_0)⟩], [], [], (some ⟨0, u4GS1, []⟩)⟩ (tmpsOf Try.prog 88) 0 200 (loopIn Try.prog 88 3)) K 200 (St.mk [und, AV.r (RV.c (CV.ptr 0 (Off.k 0) 3)), AV.r (RV.c (CV.ptr 1 (Off.k 0) 3)), rU x0, AV.r (RV.c (fI x1)), und, und, und,
 und, und, und, und, und, und, und, und, und, und, und, und, und, und, und, und, und, und, und, und, und, und, und, und, und, und, und, und, und, und, und, und, und, und, und, und, und, und, und, und, und, und, und, und, AV.tup [], AV.tup [], AV.tup [], AV.tup [], und, und, und, und, und, und, und, und] [some [sU x2,
 sU x3, sB x4], some [sU 0, sU 0, sB false]] []) = L_AY_0 (x0, x1, x2, x3, x4) (fun d => K (AX.ex 0) (St.mk [und, AV.r (RV.c (CV.ptr 0 (Off.k 0) 3)), AV.r (RV.c (CV.ptr 1 (Off.k 0) 3)),
 rU d.1, AV.r (RV.c (fI d.2.1)), und, und, und, und, und, und, AV.r (RV.c (fI d.2.1)), rB d.2.2.1, und, und, und, und, und, und, und, und, und, und, und, und, und, und, und, und, und, und, und, und, und, und, und, und, und, und, und, und, und,
 und, und, und, und, und, und, und, und, und, und, AV.tup [], AV.tup [], AV.tup [], AV.tup [], und, und, und, und, und, und, und, und] [some [sU d.2.2.2.1, sU d.c4.1, sB d.c4.2], some [sU 0, sU 0,
 sB false]] [])) := iter_loopX (emb := fun (d : Int × Int × Int × Int × Bool) => St.mk [und, AV.r (RV.c (CV.ptr 0 (Off.k 0) 3)), AV.r (RV.c (CV.ptr 1 (Off.k 0) 3)), rU d.1, AV.r (RV.c (fI d.2.1)), und, und, und, und, und, und, und, und, und, und, und,
 und, und, und, und, und, und, und, und, und, und, und, und, und, und, und, und, und, und, und, und, und, und, und, und, und, und, und, und, und, und, und, und, und, und, und, und, AV.tup [], AV.tup [], AV.tup [], AV.tup [], und, und, und, und, und, und, und, und] [some [sU d.2.2.1,
 sU d.2.2.2.1, sB d.c4], some [sU 0, sU 0, sB false]] []) (step := fun d c x => S_AY_0 f_Al f_Ao f_AG d.1 d.2.1 d.2.2.1 d.2.2.2.1 d.c4 c x) (kx := (fun d => K (AX.ex 0) (St.mk [und, AV.r (RV.c (CV.ptr 0 (Off.k 0) 3)),
 AV.r (RV.c (CV.ptr 1 (Off.k 0) 3)), rU d.1, AV.r (RV.c (fI d.2.1)), und, und, und, und, und, und, AV.r (RV.c (fI d.2.1)), rB d.2.2.1, und, und, und, und, und, und, und, und, und, und, und, und, und, und, und, und, und, und, und, und, und, und,
 und, und, und, und, und, und, und, und, und, und, und, und, und, und, und, und, und, AV.tup [], AV.tup [], AV.tup [], AV.tup [], und, und, und, und, und, und, und, und] [some [sU d.2.2.2.1, sU d.c4.1, sB d.c4.2], some [sU 0,
 sU 0, sB false]] []))) (fun d c => ds_AY_0 f_Al f_Ao f_AG (@L_AY_0) d.1 d.2.1 d.2.2.1 d.2.2.2.1 d.c4 c K) 200 (x0, x1, x2, x3, x4)
theorem so_AY_0 [Amb] : ∀ kk, SumOK Try.prog (envOf [(65, F_Al f_Al), (85, F_Ao f_Ao), (66, F_AG f_AG)]) ⟨[⟨3, u3GS1, []⟩], [⟨3, 0, @R_AY_0 (@L_AY_0)⟩], [], [], (some ⟨0, u4GS1, []⟩)⟩ (tmpsOf Try.prog 88) kk 200 (loopIn Try.prog 88 3) := SumOK.of (id := 3) (k0 := 0) (run := @R_AY_0 (@L_AY_0)) (by kernel_rfl) fun s K r hr => by
    unfold R_AY_0 at hr
    obtain ⟨b, hb, hr1⟩ := Option.bind_eq_some_iff.1 hr
    have e := ((Q_AY_0).ok s b hb).trans (q_AY_0 b)
    subst e
    exact ⟨200, (it_AY_0 b.1.2.2.2.1 b.1.c4.1 b.2.1.1.1 b.2.1.1.2.1 b.2.1.1.2.2.1 K).trans hr1⟩
def K_AY {ρ : Type} (g_Al : t16GS1) (g_Ao : t17GS1) (g_AG : GS1g0) (l_0 : ∀ {ρ : Type}, (Int × Int × Int × Int × Bool) → ((Int × Int × Bool × Int × Int × Bool) → Option ρ) → Option ρ) (x0 : Int) (x1 : Int) (x2 : Bool) (k : (Int × Int) →
 Option ρ) : Option ρ := l_0 (0, 63, x0, x1, x2) fun (d : Int × Int × Bool × Int × Int × Bool) => Option.bind (g_Al d.1 d.1) fun (d_1 : Int × Int) => Option.bind (g_AG d.2.2.2.1 d.c4.1 d.c4.2 d_1.1 d_1.2 true) fun (d_2 : Int × Int × Bool) => bif decide (d_2.1 > 0) then bif IntKind.wrap .u64 (d.1 + 1) == 0 then
 k (1, 0) else k (0, IntKind.wrap .u64 (d.1 + 1)) else bif decide (d_2.2.1 > d.1) then bif IntKind.wrap .u64 (d.1 + 1) == 0 then k (1, 0) else k (0, IntKind.wrap .u64 (d.1 + 1)) else k (0, d.1)
def f_AY (x0 : Int) (x1 : Int) (x2 : Bool) : Option (Int × Int) := K_AY f_Al f_Ao f_AG (@L_AY_0) x0 x1 x2 some
section
open Go.Ab.Rdr
def QA_AY := ((pair (cons (ar (ra (cons (gc (cf (fi .u64 hole))) (cons (gc (cf (fi .u64 hole))) (cons (gc (cf (fb hole))) nil))))) nil) nil) : Rdr (List AV × List Blk) _)
end
def F_AY (f : (Int) → (Int) → (Bool) → Option (Int × Int)) : Sem1 := fun args h => match (QA_AY).rd (args, h) with
  | some b => .opt (f b.1.1.1 b.1.1.2.1 b.1.1.2.2.1) fun (d : Int × Int) => .leaf (Res.mk (AV.r (RV.agg [sU d.1, sU d.2, sB false])) [] [])
  | none => .fail
theorem d_AY (g_Al : t16GS1) (g_Ao : t17GS1) (g_AG : GS1g0) (l_0 : ∀ {ρ : Type}, (Int × Int × Int × Int × Bool) → ((Int × Int × Bool × Int × Int × Bool) → Option ρ) → Option ρ) (x0 : Int) (x1 : Int) (x2 : Bool) : den Try.prog (envOf [(65,
 F_Al g_Al), (85, F_Ao g_Ao), (66, F_AG g_AG)]) ⟨[⟨3, u3GS1, []⟩], [⟨3, 0, @R_AY_0 (@l_0)⟩],
 [], [], (some ⟨0, u4GS1, []⟩)⟩ 200 88 [.r (.agg [.c (.f (.i .u64 x0)),
 .c (.f (.i .u64 x1)), .c (.f (.b x2))])] [] = K_AY g_Al g_Ao g_AG (@l_0) x0 x1 x2 (fun (d : Int × Int) => some (Res.mk (AV.r (RV.agg [sU d.1, sU d.2, sB false])) [] [])) := by kernel_rfl
theorem m_AY {ρ σ : Type} (q : ρ → Option σ) (g_Al : t16GS1) (g_Ao : t17GS1) (g_AG : GS1g0) (l_0 : ∀ {ρ : Type}, (Int × Int × Int × Int × Bool) → ((Int × Int × Bool × Int × Int × Bool) → Option ρ) → Option ρ) (hl_0 : ∀ {ρ σ : Type} (q : ρ → Option σ) (d : Int × Int × Int × Int × Bool) (k : (Int × Int × Bool × Int × Int × Bool) → Option ρ), (l_0 d k).bind q = l_0 d fun x => (k x).bind q) (x0 : Int) (x1 : Int) (x2 : Bool) (k : (Int × Int) → Option ρ) : (K_AY g_Al g_Ao g_AG (@l_0) x0 x1 x2 k).bind q = K_AY g_Al g_Ao g_AG (@l_0) x0 x1 x2 (fun d => (k d).bind q) := by
  simp only [K_AY, bnd_cond, bnd_bind, bnd_none, bnd_sum, hl_0]
theorem qa_AY : ∀ b, (QA_AY).em b = ([.r (.agg [.c (.f (.i .u64 b.1.1.1)), .c (.f (.i .u64 b.1.1.2.1)), .c (.f (.b b.1.1.2.2.1))])], []) := fun b => by kernel_rfl
theorem e_AY {f : (Int) → (Int) → (Bool) → Option (Int × Int)} {args : List AV} {h : List Blk} {r : Res} (hr : (F_AY f args h).eval = some r) : ∃ x0 x1 x2, args = [.r (.agg [.c (.f (.i .u64 x0)), .c (.f (.i .u64 x1)), .c (.f (.b x2))])] ∧ h = [] ∧ (f x0 x1 x2).bind (fun (d : Int × Int) => some (Res.mk (AV.r (RV.agg [sU d.1, sU d.2, sB false])) [] [])) = some r := by
  unfold F_AY at hr
  split at hr
  · rename_i b hb
    have e := ((QA_AY).ok _ _ hb).trans (qa_AY b)
    rw [opt_eval2] at hr
    exact ⟨b.1.1.1, b.1.1.2.1, b.1.1.2.2.1, (Prod.mk.inj e).1, (Prod.mk.inj e).2, hr⟩
  · cases hr
theorem n_AY {σ : Type} (q : (Int × Int) → Option σ) (x0 : Int) (x1 : Int) (x2 : Bool) : (f_AY x0 x1 x2).bind q = K_AY f_Al f_Ao f_AG (@L_AY_0) x0 x1 x2 q := by
  unfold f_AY
  exact m_AY q f_Al f_Ao f_AG (@L_AY_0) (fun q d k => mL_AY_0 q d k) x0 x1 x2 some
theorem s_AY [Amb] : Sound Try.prog 88 (F_AY f_AY) := (inl_sums (l := [(65, F_Al f_Al), (85, F_Ao f_Ao), (66, F_AG f_AG)]) (.cons s_Al (.cons s_Ao (.cons s_AG (.nil _)))) mixed (hs := ⟨[⟨3, u3GS1, []⟩], [⟨3, 0, @R_AY_0 (@L_AY_0)⟩], [], [], (some ⟨0, u4GS1, []⟩)⟩) (lf := 200) (Sums.by (l := [loopIn Try.prog 88 3]) (lj := []) (by kernel_rfl) ⟨so_AY_0, trivial⟩ (by kernel_rfl) trivial) (by kernel_rfl)).by (F := F_AY f_AY) fun args b r hr => by
  obtain ⟨x0, x1, x2, rfl, rfl, hr1⟩ := e_AY hr
  exact inl_eval ((d_AY f_Al f_Ao f_AG (@L_AY_0) x0 x1 x2).trans ((n_AY (fun (d : Int × Int) => some (Res.mk (AV.r (RV.agg [sU d.1, sU d.2, sB false])) [] [])) x0 x1 x2).symm.trans hr1))

def K_BY {ρ : Type} (g_S : t9GS1) (g_AP : t14GS1) (g_AY : t18GS1) (g_AW : t12GS1) (x0 : Int) (x1 : Bool) (k : (Int × Bool) → Option ρ) : Option ρ := Option.bind (g_S x0 x1) fun (d : Int × Bool) => bif decide (d.1 < 0) then
 k (0, true) else Option.bind (g_AP d.1) fun (d_1 : Int) => Option.bind (g_AY (Int.fdiv d_1 17179869184) (IntKind.wrap .u64 (d_1 * 1073741824)) false) fun (d_2 : Int × Int) => Option.bind (g_AW d_2.1 d_2.2 false d.2) fun (d : Int × Bool) => k (d.1, d.2)
def f_BY (x0 : Int) (x1 : Bool) : Option (Int × Bool) := K_BY f_S f_AP f_AY f_AW x0 x1 some
section
open Go.Ab.Rdr
def QA_BY := ((pair (cons (ar (rc (cptr (nat 0) (ok' (nat 0)) (nat 1)))) (cons (ar (rc (cf (fi .i64 hole)))) nil)) (cons (cons (gc (cf (fb hole))) nil) nil)) : Rdr (List AV × List Blk) _)
end
def F_BY (f : (Int) → (Bool) → Option (Int × Bool)) : Sem1 := fun args h => match (QA_BY).rd (args, h) with
  | some b => .opt (f b.1.2.1 b.2.1.1) fun (d : Int × Bool) => .leaf (Res.mk (AV.r (RV.c (fI d.1))) [Ch.set [sB d.2]] [])
  | none => .fail
theorem d_BY (g_S : t9GS1) (g_AP : t14GS1) (g_AY : t18GS1) (g_AW : t12GS1) (x0 : Int) (x1 : Bool) : den Try.prog (envOf [(41, F_S g_S), (44, F_AP g_AP), (88, F_AY g_AY), (42, F_AW g_AW)]) ⟨[], [],
 [], [], none⟩ 200 70 [.r (.c (.ptr 0 (.k 0) 1)), rI x0] [[.c (.f (.b x1))]] = K_BY g_S g_AP g_AY g_AW x0 x1 (fun (d : Int × Bool) => some (Res.mk (AV.r (RV.c (fI d.1))) [Ch.set [sB d.2]] [])) := by kernel_rfl
theorem m_BY {ρ σ : Type} (q : ρ → Option σ) (g_S : t9GS1) (g_AP : t14GS1) (g_AY : t18GS1) (g_AW : t12GS1) (x0 : Int) (x1 : Bool) (k : (Int × Bool) → Option ρ) : (K_BY g_S g_AP g_AY g_AW x0 x1 k).bind q = K_BY g_S g_AP g_AY g_AW x0 x1 (fun d => (k d).bind q) := by
  simp only [K_BY, bnd_cond, bnd_bind, bnd_none, bnd_sum]
theorem qa_BY : ∀ b, (QA_BY).em b = ([.r (.c (.ptr 0 (.k 0) 1)), rI b.1.2.1], [[.c (.f (.b b.2.1.1))]]) := fun b => by kernel_rfl
theorem e_BY {f : (Int) → (Bool) → Option (Int × Bool)} {args : List AV} {h : List Blk} {r : Res} (hr : (F_BY f args h).eval = some r) : ∃ x0 x1, args = [.r (.c (.ptr 0 (.k 0) 1)), rI x0] ∧ h = [[.c (.f (.b x1))]] ∧ (f x0 x1).bind (fun (d : Int × Bool) => some (Res.mk (AV.r (RV.c (fI d.1))) [Ch.set [sB d.2]] [])) = some r := by
  unfold F_BY at hr
  split at hr
  · rename_i b hb
    have e := ((QA_BY).ok _ _ hb).trans (qa_BY b)
    rw [opt_eval2] at hr
    exact ⟨b.1.2.1, b.2.1.1, (Prod.mk.inj e).1, (Prod.mk.inj e).2, hr⟩
  · cases hr
theorem n_BY {σ : Type} (q : (Int × Bool) → Option σ) (x0 : Int) (x1 : Bool) : (f_BY x0 x1).bind q = K_BY f_S f_AP f_AY f_AW x0 x1 q := by
  unfold f_BY
  exact m_BY q f_S f_AP f_AY f_AW x0 x1 some
theorem s_BY [Amb] : Sound Try.prog 70 (F_BY f_BY) := (inl_sound (l := [(41, F_S f_S), (44, F_AP f_AP), (88, F_AY f_AY), (42, F_AW f_AW)]) (.cons s_S (.cons s_AP (.cons s_AY (.cons s_AW (.nil _))))) mixed [] [] 200 (by kernel_rfl)).by (F := F_BY f_BY) fun args b r hr => by
  obtain ⟨x0, x1, rfl, rfl, hr1⟩ := e_BY hr
  exact inl_eval ((d_BY f_S f_AP f_AY f_AW x0 x1).trans ((n_BY (fun (d : Int × Bool) => some (Res.mk (AV.r (RV.c (fI d.1))) [Ch.set [sB d.2]] [])) x0 x1).symm.trans hr1))

def K_Bc {ρ : Type} (g_S : t9GS1) (g_AP : t14GS1) (g_AH : t11GS1) (g_AW : t12GS1) (x0 : Int) (x1 : Int) (x2 : Int) (x3 : Bool) (k : (Int × Bool) → Option ρ) : Option ρ := Option.bind (g_S x0 x3) fun (d : Int ×
 Bool) => Option.bind (g_S x1 d.2) fun (d_1 : Int × Bool) => bif d_1.1 == 0 then bif decide (d.1 > 0) then k (1152921504606846976, true) else bif decide (d.1 < 0) then k (-1152921504606846976, true) else k (0, true) else Option.bind (g_AP d.1) fun (d_2 : Int) => bif decide (x2 ≥ 64) then bif !decide (IntKind.wrap .u64 (IntKind.wrap .i64 (x2 - 64)) < 0) then
 Option.bind (g_AP d_1.1) fun (d_3 : Int) => Option.bind (g_AH (IntKind.wrap .u64 (d_2 * 2 ^ min (Int.toNat (IntKind.wrap .u64 (IntKind.wrap .i64 (x2 - 64)))) 64)) 0 (!decide (d.1 < 0) == decide (d_1.1 < 0)) d_3) fun (d : Int × Int × Bool) => Option.bind (g_AW d.1 d.2.1 d.2.2 d_1.2) fun (d : Int ×
 Bool) => k (d.1, d.2) else none else bif decide (x2 > 0) then bif !decide (IntKind.wrap .u64 (IntKind.wrap .i64 (64 - x2)) < 0) then bif !decide (IntKind.wrap .u64 x2 < 0) then Option.bind (g_AP d_1.1) fun (d_3 : Int) => Option.bind (g_AH (Int.fdiv d_2 (2 ^ min (Int.toNat (IntKind.wrap .u64 (IntKind.wrap .i64 (64 - x2)))) 64)) (IntKind.wrap .u64 (d_2 * 2 ^ min (Int.toNat (IntKind.wrap .u64 x2)) 64)) (!decide (d.1 < 0) == decide (d_1.1 < 0)) d_3) fun (d : Int ×
 Int × Bool) => Option.bind (g_AW d.1 d.2.1 d.2.2 d_1.2) fun (d : Int × Bool) => k (d.1, d.2) else none else none else Option.bind (g_AP d_1.1) fun (d_3 : Int) => Option.bind (g_AH 0 d_2 (!decide (d.1 < 0) == decide (d_1.1 < 0)) d_3) fun (d : Int × Int × Bool) => Option.bind (g_AW d.1 d.2.1 d.2.2 d_1.2) fun (d : Int ×
 Bool) => k (d.1, d.2)
def f_Bc (x0 : Int) (x1 : Int) (x2 : Int) (x3 : Bool) : Option (Int × Bool) := K_Bc f_S f_AP f_AH f_AW x0 x1 x2 x3 some
section
open Go.Ab.Rdr
def QA_Bc := ((pair (cons (ar (rc (cptr (nat 0) (ok' (nat 0)) (nat 1)))) (cons (ar (rc (cf (fi .i64 hole)))) (cons (ar (rc (cf (fi .i64 hole)))) (cons (ar (rc (cf (fi .i64 hole)))) nil)))) (cons (cons (gc (cf (fb hole))) nil) nil)) : Rdr (List AV × List Blk) _)
end
def F_Bc (f : (Int) → (Int) → (Int) → (Bool) → Option (Int × Bool)) : Sem1 := fun args h => match (QA_Bc).rd (args, h) with
  | some b => .opt (f b.1.2.1 b.1.2.2.1 b.1.2.2.2.1 b.2.1.1) fun (d : Int × Bool) => .leaf (Res.mk (AV.r (RV.c (fI d.1))) [Ch.set [sB d.2]] [])
  | none => .fail
theorem d_Bc (g_S : t9GS1) (g_AP : t14GS1) (g_AH : t11GS1) (g_AW : t12GS1) (x0 : Int) (x1 : Int) (x2 : Int) (x3 : Bool) : den Try.prog (envOf [(41, F_S g_S), (44, F_AP g_AP), (43, F_AH g_AH),
 (42, F_AW g_AW)]) ⟨[], [], [], [], none⟩ 200 89 [.r (.c (.ptr 0 (.k 0) 1)), rI x0, rI x1, rI x2] [[.c (.f (.b x3))]] = K_Bc g_S g_AP g_AH g_AW x0 x1 x2 x3 (fun (d : Int × Bool) => some (Res.mk (AV.r (RV.c (fI d.1))) [Ch.set [sB d.2]] [])) := by kernel_rfl
theorem m_Bc {ρ σ : Type} (q : ρ → Option σ) (g_S : t9GS1) (g_AP : t14GS1) (g_AH : t11GS1) (g_AW : t12GS1) (x0 : Int) (x1 : Int) (x2 : Int) (x3 : Bool) (k : (Int × Bool) → Option ρ) : (K_Bc g_S g_AP g_AH g_AW x0 x1 x2 x3 k).bind q = K_Bc g_S g_AP g_AH g_AW x0 x1 x2 x3 (fun d => (k d).bind q) := by
  simp only [K_Bc, bnd_cond, bnd_bind, bnd_none, bnd_sum]
theorem qa_Bc : ∀ b, (QA_Bc).em b = ([.r (.c (.ptr 0 (.k 0) 1)), rI b.1.2.1, rI b.1.2.2.1, rI b.1.2.2.2.1], [[.c (.f (.b b.2.1.1))]]) := fun b => by kernel_rfl
theorem e_Bc {f : (Int) → (Int) → (Int) → (Bool) → Option (Int × Bool)} {args : List AV} {h : List Blk} {r : Res} (hr : (F_Bc f args h).eval = some r) : ∃ x0 x1 x2 x3, args = [.r (.c (.ptr 0 (.k 0) 1)), rI x0, rI x1, rI x2] ∧ h = [[.c (.f (.b x3))]] ∧ (f x0 x1 x2 x3).bind (fun (d : Int × Bool) => some (Res.mk (AV.r (RV.c (fI d.1))) [Ch.set [sB d.2]] [])) = some r := by
  unfold F_Bc at hr
  split at hr
  · rename_i b hb
    have e := ((QA_Bc).ok _ _ hb).trans (qa_Bc b)
    rw [opt_eval2] at hr
    exact ⟨b.1.2.1, b.1.2.2.1, b.1.2.2.2.1, b.2.1.1, (Prod.mk.inj e).1, (Prod.mk.inj e).2, hr⟩
  · cases hr
theorem n_Bc {σ : Type} (q : (Int × Bool) → Option σ) (x0 : Int) (x1 : Int) (x2 : Int) (x3 : Bool) : (f_Bc x0 x1 x2 x3).bind q = K_Bc f_S f_AP f_AH f_AW x0 x1 x2 x3 q := by
  unfold f_Bc
  exact m_Bc q f_S f_AP f_AH f_AW x0 x1 x2 x3 some
theorem s_Bc [Amb] : Sound Try.prog 89 (F_Bc f_Bc) := (inl_sound (l := [(41, F_S f_S), (44, F_AP f_AP), (43, F_AH f_AH), (42, F_AW f_AW)]) (.cons s_S (.cons s_AP (.cons s_AH (.cons s_AW (.nil _))))) mixed [] [] 200 (by kernel_rfl)).by (F := F_Bc f_Bc) fun args b r hr => by
  obtain ⟨x0, x1, x2, x3, rfl, rfl, hr1⟩ := e_Bc hr
  exact inl_eval ((d_Bc f_S f_AP f_AH f_AW x0 x1 x2 x3).trans ((n_Bc (fun (d : Int × Bool) => some (Res.mk (AV.r (RV.c (fI d.1))) [Ch.set [sB d.2]] [])) x0 x1 x2 x3).symm.trans hr1))

def K_BO {ρ : Type} (g_Bc : t13GS1) (x0 : Int) (x1 : Int) (x2 : Bool) (k : (Int × Bool) → Option ρ) : Option ρ := Option.bind (g_Bc x0 x1 30 x2) fun (d : Int × Bool) => k (d.1, d.2)
def f_BO (x0 : Int) (x1 : Int) (x2 : Bool) : Option (Int × Bool) := K_BO f_Bc x0 x1 x2 some
section
open Go.Ab.Rdr
def QA_BO := ((pair (cons (ar (rc (cptr (nat 0) (ok' (nat 0)) (nat 1)))) (cons (ar (rc (cf (fi .i64 hole)))) (cons (ar (rc (cf (fi .i64 hole)))) nil))) (cons (cons (gc (cf (fb hole))) nil) nil)) : Rdr (List AV × List Blk) _)
end
def F_BO (f : (Int) → (Int) → (Bool) → Option (Int × Bool)) : Sem1 := fun args h => match (QA_BO).rd (args, h) with
  | some b => .opt (f b.1.2.1 b.1.2.2.1 b.2.1.1) fun (d : Int × Bool) => .leaf (Res.mk (AV.r (RV.c (fI d.1))) [Ch.set [sB d.2]] [])
  | none => .fail
theorem d_BO (g_Bc : t13GS1) (x0 : Int) (x1 : Int) (x2 : Bool) : den Try.prog (envOf [(89, F_Bc g_Bc)]) ⟨[], [], [], [], none⟩ 200 71 [.r (.c (.ptr 0 (.k 0) 1)), rI x0, rI x1] [[.c (.f (.b x2))]] = K_BO g_Bc x0 x1 x2 (fun (d : Int ×
 Bool) => some (Res.mk (AV.r (RV.c (fI d.1))) [Ch.set [sB d.2]] [])) := by kernel_rfl
theorem m_BO {ρ σ : Type} (q : ρ → Option σ) (g_Bc : t13GS1) (x0 : Int) (x1 : Int) (x2 : Bool) (k : (Int × Bool) → Option ρ) : (K_BO g_Bc x0 x1 x2 k).bind q = K_BO g_Bc x0 x1 x2 (fun d => (k d).bind q) := by
  simp only [K_BO, bnd_cond, bnd_bind, bnd_none, bnd_sum]
theorem qa_BO : ∀ b, (QA_BO).em b = ([.r (.c (.ptr 0 (.k 0) 1)), rI b.1.2.1, rI b.1.2.2.1], [[.c (.f (.b b.2.1.1))]]) := fun b => by kernel_rfl
theorem e_BO {f : (Int) → (Int) → (Bool) → Option (Int × Bool)} {args : List AV} {h : List Blk} {r : Res} (hr : (F_BO f args h).eval = some r) : ∃ x0 x1 x2, args = [.r (.c (.ptr 0 (.k 0) 1)), rI x0, rI x1] ∧ h = [[.c (.f (.b x2))]] ∧ (f x0 x1 x2).bind (fun (d : Int × Bool) => some (Res.mk (AV.r (RV.c (fI d.1))) [Ch.set [sB d.2]] [])) = some r := by
  unfold F_BO at hr
  split at hr
  · rename_i b hb
    have e := ((QA_BO).ok _ _ hb).trans (qa_BO b)
    rw [opt_eval2] at hr
    exact ⟨b.1.2.1, b.1.2.2.1, b.2.1.1, (Prod.mk.inj e).1, (Prod.mk.inj e).2, hr⟩
  · cases hr
theorem n_BO {σ : Type} (q : (Int × Bool) → Option σ) (x0 : Int) (x1 : Int) (x2 : Bool) : (f_BO x0 x1 x2).bind q = K_BO f_Bc x0 x1 x2 q := by
  unfold f_BO
  exact m_BO q f_Bc x0 x1 x2 some
theorem s_BO [Amb] : Sound Try.prog 71 (F_BO f_BO) := (inl_sound (l := [(89, F_Bc f_Bc)]) (.cons s_Bc (.nil _)) mixed [] [] 200 (by kernel_rfl)).by (F := F_BO f_BO) fun args b r hr => by
  obtain ⟨x0, x1, x2, rfl, rfl, hr1⟩ := e_BO hr
  exact inl_eval ((d_BO f_Bc x0 x1 x2).trans ((n_BO (fun (d : Int × Bool) => some (Res.mk (AV.r (RV.c (fI d.1))) [Ch.set [sB d.2]] [])) x0 x1 x2).symm.trans hr1))

def K_Ai {ρ : Type} (g_AQ : t13GS1) (g_O : t9GS1) (g_BX : t9GS1) (g_AC : t15GS1) (g_BY : t9GS1) (g_BO : t15GS1) (x0 : Int) (k : (Int ×
 Int) → Option ρ) : Option ρ := Option.bind (g_AQ x0 3373259426 1800000000 false) fun (d : Int × Bool) => Option.bind (g_O d.1 d.2) fun (d_1 : Int × Bool) => Option.bind (g_BX d.1 d_1.2) fun (d : Int × Bool) => Option.bind (g_AC d_1.1 d_1.1 d.2) fun (d_2 : Int × Bool) => Option.bind (g_AC 7188036 d_2.1 d_2.2) fun (d_3 : Int ×
 Bool) => Option.bind (g_BY (IntKind.wrap .i64 (1073741824 - d_3.1)) d_3.2) fun (d_4 : Int × Bool) => Option.bind (g_BO 6531212288 d_4.1 d_4.2) fun (d_5 : Int × Bool) => Option.bind (g_AC 6531212288 1066553788 d_5.2) fun (d_6 : Int × Bool) => Option.bind (g_AC (IntKind.wrap .i64 (1073741824 - d_3.1)) d_4.1 d_6.2) fun (d_7 : Int ×
 Bool) => Option.bind (g_BO d_6.1 d_7.1 d_7.2) fun (d_8 : Int × Bool) => Option.bind (g_AQ d_8.1 3373259426 1800000000 d_8.2) fun (d_9 : Int × Bool) => Option.bind (g_AC d_5.1 d.1 d_9.2) fun (d : Int × Bool) => Option.bind (g_AQ d.1 3373259426 1800000000 d.2) fun (d : Int × Bool) => k (d_9.1, d.1)
def f_Ai (x0 : Int) : Option (Int × Int) := K_Ai f_AQ f_O f_BX f_AC f_BY f_BO x0 some
section
open Go.Ab.Rdr
def QA_Ai := ((pair (cons (ar (rc (cf (fi .i64 hole)))) nil) nil) : Rdr (List AV × List Blk) _)
end
def F_Ai (f : (Int) → Option (Int × Int)) : Sem1 := fun args h => match (QA_Ai).rd (args, h) with
  | some b => .opt (f b.1.1) fun (d : Int × Int) => .leaf (Res.mk (AV.tup [RV.c (fI d.1), RV.c (fI d.2)]) [] [])
  | none => .fail
theorem d_Ai (g_AQ : t13GS1) (g_O : t9GS1) (g_BX : t9GS1) (g_AC : t15GS1) (g_BY : t9GS1) (g_BO : t15GS1) (x0 : Int) : den Try.prog (envOf [(15,
 F_AQ g_AQ), (67, F_O g_O), (68, F_BX g_BX), (69, F_AC g_AC), (70, F_BY g_BY), (71, F_BO g_BO)]) ⟨[], [], [], [], none⟩ 200 48 [rI x0] [] = K_Ai g_AQ g_O g_BX g_AC g_BY g_BO x0 (fun (d : Int × Int) => some (Res.mk (AV.tup [RV.c (fI d.1), RV.c (fI d.2)]) [] [])) := by kernel_rfl
theorem m_Ai {ρ σ : Type} (q : ρ → Option σ) (g_AQ : t13GS1) (g_O : t9GS1) (g_BX : t9GS1) (g_AC : t15GS1) (g_BY : t9GS1) (g_BO : t15GS1) (x0 : Int) (k : (Int × Int) → Option ρ) : (K_Ai g_AQ g_O g_BX g_AC g_BY g_BO x0 k).bind q = K_Ai g_AQ g_O g_BX g_AC g_BY g_BO x0 (fun d => (k d).bind q) := by
  simp only [K_Ai, bnd_cond, bnd_bind, bnd_none, bnd_sum]
theorem qa_Ai : ∀ b, (QA_Ai).em b = ([rI b.1.1], []) := fun b => by kernel_rfl
theorem e_Ai {f : (Int) → Option (Int × Int)} {args : List AV} {h : List Blk} {r : Res} (hr : (F_Ai f args h).eval = some r) : ∃ x0, args = [rI x0] ∧ h = [] ∧ (f x0).bind (fun (d : Int × Int) => some (Res.mk (AV.tup [RV.c (fI d.1), RV.c (fI d.2)]) [] [])) = some r := by
  unfold F_Ai at hr
  split at hr
  · rename_i b hb
    have e := ((QA_Ai).ok _ _ hb).trans (qa_Ai b)
    rw [opt_eval2] at hr
    exact ⟨b.1.1, (Prod.mk.inj e).1, (Prod.mk.inj e).2, hr⟩
  · cases hr
theorem n_Ai {σ : Type} (q : (Int × Int) → Option σ) (x0 : Int) : (f_Ai x0).bind q = K_Ai f_AQ f_O f_BX f_AC f_BY f_BO x0 q := by
  unfold f_Ai
  exact m_Ai q f_AQ f_O f_BX f_AC f_BY f_BO x0 some
theorem s_Ai [Amb] : Sound Try.prog 48 (F_Ai f_Ai) := (inl_sound (l := [(15, F_AQ f_AQ), (67, F_O f_O), (68, F_BX f_BX), (69, F_AC f_AC), (70, F_BY f_BY), (71, F_BO f_BO)]) (.cons s_AQ (.cons s_O (.cons s_BX (.cons s_AC (.cons s_BY (.cons s_BO (.nil _))))))) mixed [] [] 200 (by kernel_rfl)).by (F := F_Ai f_Ai) fun args b r hr => by
  obtain ⟨x0, rfl, rfl, hr1⟩ := e_Ai hr
  exact inl_eval ((d_Ai f_AQ f_O f_BX f_AC f_BY f_BO x0).trans ((n_Ai (fun (d : Int × Int) => some (Res.mk (AV.tup [RV.c (fI d.1), RV.c (fI d.2)]) [] [])) x0).symm.trans hr1))

def S_AA_0 {ρ : Type} (g_Ai : t19GS1) (g_AS : t13GS1) (g_AQ : t13GS1) (x0 : Int) (x1 : Int) (x2 : Int) (x3 : Int) (x4 : Int) (x5 : Int) (x6 : Int) (x7 : Bool) (c : (GS1t1) → Option ρ) (x : (GS1t2) → Option ρ) : Option ρ := bif decide (x6 > 1800000000) then
 c (x0, x1, x2, x3, x4, x5, IntKind.wrap .i64 (x6 - 3600000000), x7) else x (x0, x1, x2, x3, x4, x5, x6, decide (x6 > 1800000000), x7)
section
open Go.Ab.Rdr
def Q_AA_0 := (st (cons (ar (rc (cptr (nat 0) (ok' (nat 0)) (nat 1)))) (cons (ar (rc (cf (fi .i64 hole)))) (cons aund (cons (ar (rc (cf (fi .i64 hole)))) (cons (ar (rc (cf (fi .i64 hole)))) (cons aund (cons (ar (rc (cf (fi .i64 hole)))) (cons aund (cons aund (cons aund (cons aund (cons aund (cons aund (cons aund (cons (ar (rc (cptr (nat 1) (ok' (nat 0)) (nat 3)))) (cons (ar (rc (cf (fi .i64 hole)))) (cons (ar (rc (cf (fi .i64 hole)))) (cons (ar (rc (cf (fi .i64 hole)))) (cons aund (cons aund (cons aund (cons aund (cons aund (cons aund (cons aund (cons aund (cons aund (cons aund (cons aund (cons aund (cons aund (cons aund (cons aund (cons aund (cons aund (cons aund (cons aund (cons aund (cons aund (cons aund (cons aund (cons aund (cons aund (cons aund (cons aund (cons aund (cons aund (cons aund (cons aund (cons aund (cons aund (cons aund (cons aund (cons aund (cons aund (cons aund nil)))))))))))))))))))))))))))))))))))))))))))))))))))))))) (cons (some' (cons (gc (cf (fb hole))) nil)) (cons (some' (cons (gc (cf (fi .i64 (int 0)))) (cons (gc (cf (fi .i64 (int 0)))) (cons (gc (cf (fi .i64 (int 0)))) nil)))) nil)) nil)
end
theorem q_AA_0 : ∀ b, (Q_AA_0).em b = St.mk [AV.r (RV.c (CV.ptr 0 (Off.k 0) 1)), AV.r (RV.c (fI b.1.2.1)), und, AV.r (RV.c (fI b.1.2.2.2.1)), AV.r (RV.c (fI b.1.c4.1)), und, AV.r (RV.c (fI b.1.c4.2.2.1)), und, und, und, und, und, und, und, AV.r (RV.c (CV.ptr 1 (Off.k 0) 3)), AV.r (RV.c (fI b.1.c8.c4.2.2.2.1)),
 AV.r (RV.c (fI b.1.c16.1)), AV.r (RV.c (fI b.1.c16.2.1)), und, und, und, und, und, und, und, und, und, und, und, und, und, und, und, und, und, und, und, und, und, und, und, und, und, und, und, und, und, und, und, und, und, und, und, und, und, und] [some [sB b.2.1.1.1], some [Sg.c (fI 0),
 Sg.c (fI 0), Sg.c (fI 0)]] [] := fun b => by kernel_rfl
def R_AA_0 (l : ∀ {ρ : Type}, (GS1t1) → ((GS1t2) → Option ρ) → Option ρ) {ρ : Type} (s : St) (K : AX → St → Option ρ) : Option ρ := ((Q_AA_0).rd s).bind fun b => l (b.1.2.1, b.1.2.2.2.1, b.1.c4.1, b.1.c4.2.2.1, b.1.c8.c4.2.2.2.1, b.1.c16.1, b.1.c16.2.1, b.2.1.1.1) (fun d => K (AX.ex 0) (St.mk [AV.r (RV.c (CV.ptr 0 (Off.k 0) 1)),
 AV.r (RV.c (fI d.1)), und, AV.r (RV.c (fI d.2.1)), AV.r (RV.c (fI d.2.2.1)), und, AV.r (RV.c (fI d.2.2.2.1)), und, und, und, und, und, und, und, AV.r (RV.c (CV.ptr 1 (Off.k 0) 3)), AV.r (RV.c (fI d.c4.1)), AV.r (RV.c (fI d.c4.2.1)), AV.r (RV.c (fI d.c4.2.2.1)), und, und, und, und, und, und, und, und,
 AV.r (RV.c (fI d.c4.2.2.1)), rB d.c4.2.2.2.1, und, und, und, und, und, und, und, und, und, und, und, und, und, und, und, und, und, und, und, und, und, und, und, und, und, und, und, und] [some [sB d.c8], some [Sg.c (fI 0), Sg.c (fI 0), Sg.c (fI 0)]] []))
theorem ms_AA_0 {ρ σ : Type} (g_Ai : t19GS1) (g_AS : t13GS1) (g_AQ : t13GS1) (q : ρ → Option σ) (x0 : Int) (x1 : Int) (x2 : Int) (x3 : Int) (x4 : Int) (x5 : Int) (x6 : Int) (x7 : Bool) (c : (GS1t1) → Option ρ) (x : (GS1t2) → Option ρ) : (S_AA_0 g_Ai g_AS g_AQ x0 x1 x2 x3 x4 x5 x6 x7 c x).bind q = S_AA_0 g_Ai g_AS g_AQ x0 x1 x2 x3 x4 x5 x6 x7 (fun d => (c d).bind q) (fun d => (x d).bind q) := by
  simp only [S_AA_0, bnd_cond, bnd_bind, bnd_none, bnd_sum]
def L_AA_0 {ρ : Type} (d : GS1t1) (k : (GS1t2) → Option ρ) : Option ρ := loopK (fun d c x => S_AA_0 f_Ai f_AS f_AQ d.1 d.2.1 d.2.2.1 d.2.2.2.1 d.c4.1 d.c4.2.1 d.c4.2.2.1 d.c4.2.2.2 c x) 200 d k
theorem mL_AA_0 {ρ σ : Type} (q : ρ → Option σ) (d : GS1t1) (k : (GS1t2) → Option ρ) : (L_AA_0 d k).bind q = L_AA_0 d fun x => (k x).bind q := loopK_bind q (fun d c x => ms_AA_0 f_Ai f_AS f_AQ q d.1 d.2.1 d.2.2.1 d.2.2.2.1 d.c4.1 d.c4.2.1 d.c4.2.2.1 d.c4.2.2.2 c x) k _ d
def S_AA_1 {ρ : Type} (g_Ai : t19GS1) (g_AS : t13GS1) (g_AQ : t13GS1) (x0 : Int) (x1 : Int) (x2 : Int) (x3 : Int) (x4 : Int) (x5 : Int) (x6 : Int) (x7 : Bool) (c : (GS1t1) → Option ρ) (x : (GS1t2) → Option ρ) : Option ρ := bif decide (x6 ≤ -1800000000) then
 c (x0, x1, x2, x3, x4, x5, IntKind.wrap .i64 (x6 + 3600000000), x7) else x (x0, x1, x2, x3, x4, x5, x6, decide (x6 ≤ -1800000000), x7)
section
open Go.Ab.Rdr
def Q_AA_1 := (st (cons (ar (rc (cptr (nat 0) (ok' (nat 0)) (nat 1)))) (cons (ar (rc (cf (fi .i64 hole)))) (cons aund (cons (ar (rc (cf (fi .i64 hole)))) (cons (ar (rc (cf (fi .i64 hole)))) (cons aund (cons (ar (rc (cf (fi .i64 hole)))) (cons aund (cons aund (cons aund (cons aund (cons aund (cons aund (cons aund (cons (ar (rc (cptr (nat 1) (ok' (nat 0)) (nat 3)))) (cons (ar (rc (cf (fi .i64 hole)))) (cons (ar (rc (cf (fi .i64 hole)))) (cons (ar (rc (cf (fi .i64 hole)))) (cons aund (cons aund (cons aund (cons aund (cons aund (cons aund (cons aund (cons aund (cons aund (cons aund (cons aund (cons aund (cons aund (cons aund (cons aund (cons aund (cons aund (cons aund (cons aund (cons aund (cons aund (cons aund (cons aund (cons aund (cons aund (cons aund (cons aund (cons aund (cons aund (cons aund (cons aund (cons aund (cons aund (cons aund (cons aund (cons aund (cons aund (cons aund nil)))))))))))))))))))))))))))))))))))))))))))))))))))))))) (cons (some' (cons (gc (cf (fb hole))) nil)) (cons (some' (cons (gc (cf (fi .i64 (int 0)))) (cons (gc (cf (fi .i64 (int 0)))) (cons (gc (cf (fi .i64 (int 0)))) nil)))) nil)) nil)
end
theorem q_AA_1 : ∀ b, (Q_AA_1).em b = St.mk [AV.r (RV.c (CV.ptr 0 (Off.k 0) 1)), AV.r (RV.c (fI b.1.2.1)), und, AV.r (RV.c (fI b.1.2.2.2.1)), AV.r (RV.c (fI b.1.c4.1)), und, AV.r (RV.c (fI b.1.c4.2.2.1)), und, und, und, und, und, und, und, AV.r (RV.c (CV.ptr 1 (Off.k 0) 3)), AV.r (RV.c (fI b.1.c8.c4.2.2.2.1)),
 AV.r (RV.c (fI b.1.c16.1)), AV.r (RV.c (fI b.1.c16.2.1)), und, und, und, und, und, und, und, und, und, und, und, und, und, und, und, und, und, und, und, und, und, und, und, und, und, und, und, und, und, und, und, und, und, und, und, und, und, und] [some [sB b.2.1.1.1], some [Sg.c (fI 0),
 Sg.c (fI 0), Sg.c (fI 0)]] [] := fun b => by kernel_rfl
def R_AA_1 (l : ∀ {ρ : Type}, (GS1t1) → ((GS1t2) → Option ρ) → Option ρ) {ρ : Type} (s : St) (K : AX → St → Option ρ) : Option ρ := ((Q_AA_1).rd s).bind fun b => l (b.1.2.1, b.1.2.2.2.1, b.1.c4.1, b.1.c4.2.2.1, b.1.c8.c4.2.2.2.1, b.1.c16.1, b.1.c16.2.1, b.2.1.1.1) (fun d => K (AX.ex 2) (St.mk [AV.r (RV.c (CV.ptr 0 (Off.k 0) 1)),
 AV.r (RV.c (fI d.1)), und, AV.r (RV.c (fI d.2.1)), AV.r (RV.c (fI d.2.2.1)), und, AV.r (RV.c (fI d.2.2.2.1)), und, und, und, und, und, und, und, AV.r (RV.c (CV.ptr 1 (Off.k 0) 3)), AV.r (RV.c (fI d.c4.1)), AV.r (RV.c (fI d.c4.2.1)), AV.r (RV.c (fI d.c4.2.2.1)), und, und, und, und, und, und, und, und,
 und, und, und, und, AV.r (RV.c (fI d.c4.2.2.1)), rB d.c4.2.2.2.1, und, und, und, und, und, und, und, und, und, und, und, und, und, und, und, und, und, und, und, und, und, und, und, und] [some [sB d.c8], some [Sg.c (fI 0), Sg.c (fI 0), Sg.c (fI 0)]] []))
theorem ms_AA_1 {ρ σ : Type} (g_Ai : t19GS1) (g_AS : t13GS1) (g_AQ : t13GS1) (q : ρ → Option σ) (x0 : Int) (x1 : Int) (x2 : Int) (x3 : Int) (x4 : Int) (x5 : Int) (x6 : Int) (x7 : Bool) (c : (GS1t1) → Option ρ) (x : (GS1t2) → Option ρ) : (S_AA_1 g_Ai g_AS g_AQ x0 x1 x2 x3 x4 x5 x6 x7 c x).bind q = S_AA_1 g_Ai g_AS g_AQ x0 x1 x2 x3 x4 x5 x6 x7 (fun d => (c d).bind q) (fun d => (x d).bind q) := by
  simp only [S_AA_1, bnd_cond, bnd_bind, bnd_none, bnd_sum]
def L_AA_1 {ρ : Type} (d : GS1t1) (k : (GS1t2) → Option ρ) : Option ρ := loopK (fun d c x => S_AA_1 f_Ai f_AS f_AQ d.1 d.2.1 d.2.2.1 d.2.2.2.1 d.c4.1 d.c4.2.1 d.c4.2.2.1 d.c4.2.2.2 c x) 200 d k
theorem mL_AA_1 {ρ σ : Type} (q : ρ → Option σ) (d : GS1t1) (k : (GS1t2) → Option ρ) : (L_AA_1 d k).bind q = L_AA_1 d fun x => (k x).bind q := loopK_bind q (fun d c x => ms_AA_1 f_Ai f_AS f_AQ q d.1 d.2.1 d.2.2.1 d.2.2.2.1 d.c4.1 d.c4.2.1 d.c4.2.2.1 d.c4.2.2.2 c x) k _ d
theorem ds_AA_0 {ρ : Type} (g_Ai : t19GS1) (g_AS : t13GS1) (g_AQ : t13GS1) (l_0 : ∀ {ρ : Type}, (GS1t1) → ((GS1t2) → Option ρ) → Option ρ) (l_1 : ∀ {ρ : Type}, (GS1t1) → ((GS1t2) → Option ρ) → Option ρ) (x0 : Int) (x1 : Int) (x2 : Int) (x3 : Int) (x4 : Int) (x5 : Int) (x6 : Int) (x7 : Bool) (c : St →
 Option ρ) (K : AX → St → Option ρ) : runC Try.prog (envOf [(48, F_Ai g_Ai), (49, F_AS g_AS), (15, F_AQ g_AQ)]) ⟨[⟨3, u5GS1,
 []⟩, ⟨5, u5GS1, []⟩], [⟨3, 1, @R_AA_0 (@l_0)⟩, ⟨5, 1, @R_AA_1 (@l_1)⟩], [], [], (some ⟨0, u6GS1, []⟩)⟩ (tmpsOf Try.prog 21) 1 200 (loopIn Try.prog 21 3) (St.mk [AV.r (RV.c (CV.ptr 0 (Off.k 0) 1)), AV.r (RV.c (fI x0)), und,
 AV.r (RV.c (fI x1)), AV.r (RV.c (fI x2)), und, AV.r (RV.c (fI x3)), und, und, und, und, und, und, und, AV.r (RV.c (CV.ptr 1 (Off.k 0) 3)), AV.r (RV.c (fI x4)), AV.r (RV.c (fI x5)), AV.r (RV.c (fI x6)), und, und, und, und, und, und, und, und, und, und, und, und, und, und, und, und, und, und, und, und,
 und, und, und, und, und, und, und, und, und, und, und, und, und, und, und, und, und, und] [some [sB x7], some [Sg.c (fI 0), Sg.c (fI 0), Sg.c (fI 0)]] []) (next (fun t => t.head 1 ⟨[⟨3, u5GS1, []⟩, ⟨5, u5GS1, []⟩], [⟨3, 1, @R_AA_0 (@l_0)⟩,
 ⟨5, 1, @R_AA_1 (@l_1)⟩], [], [], (some ⟨0, u6GS1, []⟩)⟩ (loopIn Try.prog 21 3)) c K) = S_AA_0 g_Ai g_AS g_AQ x0 x1 x2 x3 x4 x5 x6 x7 (fun d => c (St.mk [AV.r (RV.c (CV.ptr 0 (Off.k 0) 1)),
 AV.r (RV.c (fI d.1)), und, AV.r (RV.c (fI d.2.1)), AV.r (RV.c (fI d.2.2.1)), und, AV.r (RV.c (fI d.2.2.2.1)), und, und, und, und, und, und, und, AV.r (RV.c (CV.ptr 1 (Off.k 0) 3)), AV.r (RV.c (fI d.c4.1)), AV.r (RV.c (fI d.c4.2.1)), AV.r (RV.c (fI d.c4.2.2.1)), und, und, und, und, und, und, und, und,
 und, und, und, und, und, und, und, und, und, und, und, und, und, und, und, und, und, und, und, und, und, und, und, und, und, und, und, und, und, und] [some [sB d.c4.2.2.2], some [Sg.c (fI 0), Sg.c (fI 0), Sg.c (fI 0)]] [])) (fun d => K (AX.ex 0) (St.mk [AV.r (RV.c (CV.ptr 0 (Off.k 0) 1)),
 AV.r (RV.c (fI d.1)), und, AV.r (RV.c (fI d.2.1)), AV.r (RV.c (fI d.2.2.1)), und, AV.r (RV.c (fI d.2.2.2.1)), und, und, und, und, und, und, und, AV.r (RV.c (CV.ptr 1 (Off.k 0) 3)), AV.r (RV.c (fI d.c4.1)), AV.r (RV.c (fI d.c4.2.1)), AV.r (RV.c (fI d.c4.2.2.1)), und, und, und, und, und, und, und, und,
 AV.r (RV.c (fI d.c4.2.2.1)), rB d.c4.2.2.2.1, und, und, und, und, und, und, und, und, und, und, und, und, und, und, und, und, und, und, und, und, und, und, und, und, und, und, und, und] [some [sB d.c8], some [Sg.c (fI 0), Sg.c (fI 0), Sg.c (fI 0)]] [])) := by kernel_rfl
theorem it_AA_0 {ρ : Type} (x0 : Int) (x1 : Int) (x2 : Int) (x3 : Int) (x4 : Int) (x5 : Int) (x6 : Int) (x7 : Bool) (K : AX → St → Option ρ) : iter (fun t => t.head 1 ⟨[⟨3, u5GS1, []⟩, ⟨5, u5GS1, []⟩], [⟨3, 1, @R_AA_0 (@L_AA_0)⟩, ⟨5, 1, @R_AA_1 (@L_AA_1)⟩],
 [], [], (some ⟨0, u6GS1, []⟩)⟩ (loopIn Try.prog 21 3)) (runC Try.prog (envOf [(48, F_Ai f_Ai), (49,
 F_AS f_AS), (15, F_AQ f_AQ)]) ⟨[⟨3, u5GS1, []⟩, ⟨5, u5GS1, []⟩], [⟨3, 1, @R_AA_0 (@L_AA_0)⟩, ⟨5, 1, @R_AA_1 (@L_AA_1)⟩], [], [], (some ⟨0, u6GS1, []⟩)⟩ (tmpsOf Try.prog 21) 1 200 (loopIn Try.prog 21 3)) K 200 (St.mk [AV.r (RV.c (CV.ptr 0 (Off.k 0) 1)), AV.r (RV.c (fI x0)), und, AV.r (RV.c (fI x1)), AV.r (RV.c (fI x2)), und, AV.r (RV.c (fI x3)),
 und, und, und, und, und, und, und, AV.r (RV.c (CV.ptr 1 (Off.k 0) 3)), AV.r (RV.c (fI x4)), AV.r (RV.c (fI x5)), AV.r (RV.c (fI x6)), und, und, und, und, und, und, und, und, und, und, und, und, und, und, und, und, und, und, und, und, und, und, und, und, und, und, und, und, und, und, und, und, und, und,
 und, und, und, und] [some [sB x7], some [Sg.c (fI 0), Sg.c (fI 0), Sg.c (fI 0)]] []) = L_AA_0 (x0, x1, x2, x3, x4, x5, x6, x7) (fun d => K (AX.ex 0) (St.mk [AV.r (RV.c (CV.ptr 0 (Off.k 0) 1)), AV.r (RV.c (fI d.1)), und, AV.r (RV.c (fI d.2.1)), AV.r (RV.c (fI d.2.2.1)), und, AV.r (RV.c (fI d.2.2.2.1)),
 und, und, und, und, und, und, und, AV.r (RV.c (CV.ptr 1 (Off.k 0) 3)), AV.r (RV.c (fI d.c4.1)), AV.r (RV.c (fI d.c4.2.1)), AV.r (RV.c (fI d.c4.2.2.1)), und, und, und, und, und, und, und, und, AV.r (RV.c (fI d.c4.2.2.1)), rB d.c4.2.2.2.1, und, und, und, und, und, und, und, und,
 und, und, und, und, und, und, und, und, und, und, und, und, und, und, und, und, und, und, und, und] [some [sB d.c8], some [Sg.c (fI 0), Sg.c (fI 0), Sg.c (fI 0)]] [])) := iter_loopX (emb := fun (d : GS1t1) => St.mk [AV.r (RV.c (CV.ptr 0 (Off.k 0) 1)), AV.r (RV.c (fI d.1)), und, AV.r (RV.c (fI d.2.1)),
 AV.r (RV.c (fI d.2.2.1)), und, AV.r (RV.c (fI d.2.2.2.1)), und, und, und, und, und, und, und, AV.r (RV.c (CV.ptr 1 (Off.k 0) 3)), AV.r (RV.c (fI d.c4.1)), AV.r (RV.c (fI d.c4.2.1)), AV.r (RV.c (fI d.c4.2.2.1)), und, und, und, und, und, und, und, und, und, und, und, und, und, und, und, und, und, und,
 und, und, und, und, und, und, und, und, und, und, und, und, und, und, und, und, und, und, und, und] [some [sB d.c4.2.2.2], some [Sg.c (fI 0), Sg.c (fI 0), Sg.c (fI 0)]] []) (step := fun d c x => S_AA_0 f_Ai f_AS f_AQ d.1 d.2.1 d.2.2.1 d.2.2.2.1 d.c4.1 d.c4.2.1 d.c4.2.2.1 d.c4.2.2.2 c x) (kx := (fun d => K (AX.ex 0) (St.mk [AV.r (RV.c (CV.ptr 0 (Off.k 0) 1)),
 AV.r (RV.c (fI d.1)), und, AV.r (RV.c (fI d.2.1)), AV.r (RV.c (fI d.2.2.1)), und, AV.r (RV.c (fI d.2.2.2.1)), und, und, und, und, und, und, und, AV.r (RV.c (CV.ptr 1 (Off.k 0) 3)), AV.r (RV.c (fI d.c4.1)), AV.r (RV.c (fI d.c4.2.1)), AV.r (RV.c (fI d.c4.2.2.1)), und, und, und, und, und, und, und, und,
 AV.r (RV.c (fI d.c4.2.2.1)), rB d.c4.2.2.2.1, und, und, und, und, und, und, und, und, und, und, und, und, und, und, und, und, und, und, und, und, und, und, und, und, und, und, und, und] [some [sB d.c8], some [Sg.c (fI 0), Sg.c (fI 0), Sg.c (fI 0)]] []))) (fun d c => ds_AA_0 f_Ai f_AS f_AQ (@L_AA_0) (@L_AA_1) d.1 d.2.1 d.2.2.1 d.2.2.2.1 d.c4.1 d.c4.2.1 d.c4.2.2.1 d.c4.2.2.2 c K) 200 (x0,
 x1, x2, x3, x4, x5, x6, x7)
theorem so_AA_0 [Amb] : ∀ kk, SumOK Try.prog (envOf [(48, F_Ai f_Ai), (49, F_AS f_AS), (15, F_AQ f_AQ)]) ⟨[⟨3, u5GS1, []⟩,
 ⟨5, u5GS1, []⟩], [⟨3, 1, @R_AA_0 (@L_AA_0)⟩, ⟨5, 1, @R_AA_1 (@L_AA_1)⟩], [], [], (some ⟨0, u6GS1, []⟩)⟩ (tmpsOf Try.prog 21) kk 200 (loopIn Try.prog 21 3) := SumOK.of (id := 3) (k0 := 1) (run := @R_AA_0 (@L_AA_0)) (by kernel_rfl) fun s K r hr => by
    unfold R_AA_0 at hr
    obtain ⟨b, hb, hr1⟩ := Option.bind_eq_some_iff.1 hr
    have e := ((Q_AA_0).ok s b hb).trans (q_AA_0 b)
    subst e
    exact ⟨200, (it_AA_0 b.1.2.1 b.1.2.2.2.1 b.1.c4.1 b.1.c4.2.2.1 b.1.c8.c4.2.2.2.1 b.1.c16.1 b.1.c16.2.1 b.2.1.1.1 K).trans hr1⟩
theorem ds_AA_1 {ρ : Type} (g_Ai : t19GS1) (g_AS : t13GS1) (g_AQ : t13GS1) (l_0 : ∀ {ρ : Type}, (GS1t1) → ((GS1t2) → Option ρ) → Option ρ) (l_1 : ∀ {ρ : Type}, (GS1t1) → ((GS1t2) → Option ρ) → Option ρ) (x0 : Int) (x1 : Int) (x2 : Int) (x3 : Int) (x4 : Int) (x5 : Int) (x6 : Int) (x7 : Bool) (c : St →
 Option ρ) (K : AX → St → Option ρ) : runC Try.prog (envOf [(48, F_Ai g_Ai), (49, F_AS g_AS), (15, F_AQ g_AQ)]) ⟨[⟨3, u5GS1,
 []⟩, ⟨5, u5GS1, []⟩], [⟨3, 1, @R_AA_0 (@l_0)⟩, ⟨5, 1, @R_AA_1 (@l_1)⟩], [], [], (some ⟨0, u6GS1, []⟩)⟩ (tmpsOf Try.prog 21) 1 200 (loopIn Try.prog 21 5) (St.mk [AV.r (RV.c (CV.ptr 0 (Off.k 0) 1)), AV.r (RV.c (fI x0)), und,
 AV.r (RV.c (fI x1)), AV.r (RV.c (fI x2)), und, AV.r (RV.c (fI x3)), und, und, und, und, und, und, und, AV.r (RV.c (CV.ptr 1 (Off.k 0) 3)), AV.r (RV.c (fI x4)), AV.r (RV.c (fI x5)), AV.r (RV.c (fI x6)), und, und, und, und, und, und, und, und, und, und, und, und, und, und, und, und, und, und, und, und,
 und, und, und, und, und, und, und, und, und, und, und, und, und, und, und, und, und, und] [some [sB x7], some [Sg.c (fI 0), Sg.c (fI 0), Sg.c (fI 0)]] []) (next (fun t => t.head 1 ⟨[⟨3, u5GS1, []⟩, ⟨5, u5GS1, []⟩], [⟨3, 1, @R_AA_0 (@l_0)⟩,
 ⟨5, 1, @R_AA_1 (@l_1)⟩], [], [], (some ⟨0, u6GS1, []⟩)⟩ (loopIn Try.prog 21 5)) c K) = S_AA_1 g_Ai g_AS g_AQ x0 x1 x2 x3 x4 x5 x6 x7 (fun d => c (St.mk [AV.r (RV.c (CV.ptr 0 (Off.k 0) 1)),
 AV.r (RV.c (fI d.1)), und, AV.r (RV.c (fI d.2.1)), AV.r (RV.c (fI d.2.2.1)), und, AV.r (RV.c (fI d.2.2.2.1)), und, und, und, und, und, und, und, AV.r (RV.c (CV.ptr 1 (Off.k 0) 3)), AV.r (RV.c (fI d.c4.1)), AV.r (RV.c (fI d.c4.2.1)), AV.r (RV.c (fI d.c4.2.2.1)), und, und, und, und, und, und, und, und,
 und, und, und, und, und, und, und, und, und, und, und, und, und, und, und, und, und, und, und, und, und, und, und, und, und, und, und, und, und, und] [some [sB d.c4.2.2.2], some [Sg.c (fI 0), Sg.c (fI 0), Sg.c (fI 0)]] [])) (fun d => K (AX.ex 2) (St.mk [AV.r (RV.c (CV.ptr 0 (Off.k 0) 1)),
 AV.r (RV.c (fI d.1)), und, AV.r (RV.c (fI d.2.1)), AV.r (RV.c (fI d.2.2.1)), und, AV.r (RV.c (fI d.2.2.2.1)), und, und, und, und, und, und, und, AV.r (RV.c (CV.ptr 1 (Off.k 0) 3)), AV.r (RV.c (fI d.c4.1)), AV.r (RV.c (fI d.c4.2.1)), AV.r (RV.c (fI d.c4.2.2.1)), und, und, und, und, und, und, und, und,
 und, und, und, und, AV.r (RV.c (fI d.c4.2.2.1)), rB d.c4.2.2.2.1, und, und, und, und, und, und, und, und, und, und, und, und, und, und, und, und, und, und, und, und, und, und, und, und] [some [sB d.c8], some [Sg.c (fI 0), Sg.c (fI 0), Sg.c (fI 0)]] [])) := by kernel_rfl
theorem it_AA_1 {ρ : Type} (x0 : Int) (x1 : Int) (x2 : Int) (x3 : Int) (x4 : Int) (x5 : Int) (x6 : Int) (x7 : Bool) (K : AX → St → Option ρ) : iter (fun t => t.head 1 ⟨[⟨3, u5GS1, []⟩, ⟨5, u5GS1, []⟩], [⟨3, 1, @R_AA_0 (@L_AA_0)⟩, ⟨5, 1, @R_AA_1 (@L_AA_1)⟩],
 [], [], (some ⟨0, u6GS1, []⟩)⟩ (loopIn Try.prog 21 5)) (runC Try.prog (envOf [(48, F_Ai f_Ai), (49,
 F_AS f_AS), (15, F_AQ f_AQ)]) ⟨[⟨3, u5GS1, []⟩, ⟨5, u5GS1, []⟩], [⟨3, 1, @R_AA_0 (@L_AA_0)⟩, ⟨5, 1, @R_AA_1 (@L_AA_1)⟩], [], [], (some ⟨0, u6GS1, []⟩)⟩ (tmpsOf Try.prog 21) 1 200 (loopIn Try.prog 21 5)) K 200 (St.mk [AV.r (RV.c (CV.ptr 0 (Off.k 0) 1)), AV.r (RV.c (fI x0)), und, AV.r (RV.c (fI x1)), AV.r (RV.c (fI x2)), und, AV.r (RV.c (fI x3)),
 und, und, und, und, und, und, und, AV.r (RV.c (CV.ptr 1 (Off.k 0) 3)), AV.r (RV.c (fI x4)), AV.r (RV.c (fI x5)), AV.r (RV.c (fI x6)), und, und, und, und, und, und, und, und, und, und, und, und, und, und, und, und, und, und, und, und, und, und, und, und, und, und, und, und, und, und, und, und, und, und,
 und, und, und, und] [some [sB x7], some [Sg.c (fI 0), Sg.c (fI 0), Sg.c (fI 0)]] []) = L_AA_1 (x0, x1, x2, x3, x4, x5, x6, x7) (fun d => K (AX.ex 2) (St.mk [AV.r (RV.c (CV.ptr 0 (Off.k 0) 1)), AV.r (RV.c (fI d.1)), und, AV.r (RV.c (fI d.2.1)), AV.r (RV.c (fI d.2.2.1)), und, AV.r (RV.c (fI d.2.2.2.1)),
 und, und, und, und, und, und, und, AV.r (RV.c (CV.ptr 1 (Off.k 0) 3)), AV.r (RV.c (fI d.c4.1)), AV.r (RV.c (fI d.c4.2.1)), AV.r (RV.c (fI d.c4.2.2.1)), und, und, und, und, und, und, und, und, und, und, und, und, AV.r (RV.c (fI d.c4.2.2.1)), rB d.c4.2.2.2.1, und, und, und, und,
 und, und, und, und, und, und, und, und, und, und, und, und, und, und, und, und, und, und, und, und] [some [sB d.c8], some [Sg.c (fI 0), Sg.c (fI 0), Sg.c (fI 0)]] [])) := iter_loopX (emb := fun (d : GS1t1) => St.mk [AV.r (RV.c (CV.ptr 0 (Off.k 0) 1)), AV.r (RV.c (fI d.1)), und, AV.r (RV.c (fI d.2.1)),
 AV.r (RV.c (fI d.2.2.1)), und, AV.r (RV.c (fI d.2.2.2.1)), und, und, und, und, und, und, und, AV.r (RV.c (CV.ptr 1 (Off.k 0) 3)), AV.r (RV.c (fI d.c4.1)), AV.r (RV.c (fI d.c4.2.1)), AV.r (RV.c (fI d.c4.2.2.1)), und, und, und, und, und, und, und, und, und, und, und, und, und, und, und, und, und, und,
 und, und, und, und, und, und, und, und, und, und, und, und, und, und, und, und, und, und, und, und] [some [sB d.c4.2.2.2], some [Sg.c (fI 0), Sg.c (fI 0), Sg.c (fI 0)]] []) (step := fun d c x => S_AA_1 f_Ai f_AS f_AQ d.1 d.2.1 d.2.2.1 d.2.2.2.1 d.c4.1 d.c4.2.1 d.c4.2.2.1 d.c4.2.2.2 c x) (kx := (fun d => K (AX.ex 2) (St.mk [AV.r (RV.c (CV.ptr 0 (Off.k 0) 1)),
 AV.r (RV.c (fI d.1)), und, AV.r (RV.c (fI d.2.1)), AV.r (RV.c (fI d.2.2.1)), und, AV.r (RV.c (fI d.2.2.2.1)), und, und, und, und, und, und, und, AV.r (RV.c (CV.ptr 1 (Off.k 0) 3)), AV.r (RV.c (fI d.c4.1)), AV.r (RV.c (fI d.c4.2.1)), AV.r (RV.c (fI d.c4.2.2.1)), und, und, und, und, und, und, und, und,
 und, und, und, und, AV.r (RV.c (fI d.c4.2.2.1)), rB d.c4.2.2.2.1, und, und, und, und, und, und, und, und, und, und, und, und, und, und, und, und, und, und, und, und, und, und, und, und] [some [sB d.c8], some [Sg.c (fI 0), Sg.c (fI 0), Sg.c (fI 0)]] []))) (fun d c => ds_AA_1 f_Ai f_AS f_AQ (@L_AA_0) (@L_AA_1) d.1 d.2.1 d.2.2.1 d.2.2.2.1 d.c4.1 d.c4.2.1 d.c4.2.2.1 d.c4.2.2.2 c K) 200 (x0,
 x1, x2, x3, x4, x5, x6, x7)
theorem so_AA_1 [Amb] : ∀ kk, SumOK Try.prog (envOf [(48, F_Ai f_Ai), (49, F_AS f_AS), (15, F_AQ f_AQ)]) ⟨[⟨3, u5GS1, []⟩,
 ⟨5, u5GS1, []⟩], [⟨3, 1, @R_AA_0 (@L_AA_0)⟩, ⟨5, 1, @R_AA_1 (@L_AA_1)⟩], [], [], (some ⟨0, u6GS1, []⟩)⟩ (tmpsOf Try.prog 21) kk 200 (loopIn Try.prog 21 5) := SumOK.of (id := 5) (k0 := 1) (run := @R_AA_1 (@L_AA_1)) (by kernel_rfl) fun s K r hr => by
    unfold R_AA_1 at hr
    obtain ⟨b, hb, hr1⟩ := Option.bind_eq_some_iff.1 hr
    have e := ((Q_AA_1).ok s b hb).trans (q_AA_1 b)
    subst e
    exact ⟨200, (it_AA_1 b.1.2.1 b.1.2.2.2.1 b.1.c4.1 b.1.c4.2.2.1 b.1.c8.c4.2.2.2.1 b.1.c16.1 b.1.c16.2.1 b.2.1.1.1 K).trans hr1⟩
def K_AA {ρ : Type} (g_Ai : t19GS1) (g_AS : t13GS1) (g_AQ : t13GS1) (l_0 : ∀ {ρ : Type}, (GS1t1) → ((GS1t2) → Option ρ) → Option ρ) (l_1 : ∀ {ρ : Type}, (GS1t1) → ((GS1t2) → Option ρ) → Option ρ) (x0 : Int) (x1 : Int) (x2 : Int) (x3 : Int) (x4 : Int) (x5 : Int) (x6 : Bool) (k : (Int ×
 Int × Int × Bool) → Option ρ) : Option ρ := Option.bind (g_Ai x0) fun (d : Int × Int) => l_0 (x0, x2, x3, x5, d.1, d.2, IntKind.wrap .i64 (x4 - x1), x6) fun (d : GS1t2) => l_1 (d.1, d.2.1, d.2.2.1, d.2.2.2.1, d.c4.1, d.c4.2.1, d.c4.2.2.1, d.c8) fun (d : GS1t2) => Option.bind (g_AS (IntKind.wrap .i64 (d.2.2.1 - d.1)) d.c4.1 10 d.c8) fun (d_1 : Int ×
 Bool) => Option.bind (g_AS d.c4.2.2.1 d.c4.2.1 10 d_1.2) fun (d_2 : Int × Bool) => Option.bind (g_AQ (IntKind.wrap .i64 (d.2.1 - d.2.2.2.1)) 1073741824 1000 d_2.2) fun (d : Int × Bool) => k (d_1.1, d_2.1, d.1, d.2)
def f_AA (x0 : Int) (x1 : Int) (x2 : Int) (x3 : Int) (x4 : Int) (x5 : Int) (x6 : Bool) : Option (Int × Int × Int × Bool) := K_AA f_Ai f_AS f_AQ (@L_AA_0) (@L_AA_1) x0 x1 x2 x3 x4 x5 x6 some
section
open Go.Ab.Rdr
def QA_AA := ((pair (cons (ar (rc (cptr (nat 0) (ok' (nat 0)) (nat 1)))) (cons (ar (rc (cf (fi .i64 hole)))) (cons (ar (rc (cf (fi .i64 hole)))) (cons (ar (rc (cf (fi .i64 hole)))) (cons (ar (rc (cf (fi .i64 hole)))) (cons (ar (rc (cf (fi .i64 hole)))) (cons (ar (rc (cf (fi .i64 hole)))) nil))))))) (cons (cons (gc (cf (fb hole))) nil) nil)) : Rdr (List AV × List Blk) _)
end
def F_AA (f : (Int) → (Int) → (Int) → (Int) → (Int) → (Int) → (Bool) → Option (Int × Int × Int × Bool)) : Sem1 := fun args h => match (QA_AA).rd (args, h) with
  | some b => .opt (f b.1.2.1 b.1.2.2.1 b.1.2.2.2.1 b.1.c4.1 b.1.c4.2.1 b.1.c4.2.2.1 b.2.1.1) fun (d : Int × Int × Int × Bool) => .leaf (Res.mk (AV.r (RV.agg [Sg.c (fI d.1), Sg.c (fI d.2.1), Sg.c (fI d.2.2.1)])) [Ch.set [sB d.2.2.2]] [])
  | none => .fail
theorem d_AA (g_Ai : t19GS1) (g_AS : t13GS1) (g_AQ : t13GS1) (l_0 : ∀ {ρ : Type}, (GS1t1) → ((GS1t2) → Option ρ) → Option ρ) (l_1 : ∀ {ρ : Type}, (GS1t1) → ((GS1t2) → Option ρ) → Option ρ) (x0 : Int) (x1 : Int) (x2 : Int) (x3 : Int) (x4 : Int) (x5 : Int) (x6 : Bool) : den Try.prog (envOf [(48,
 F_Ai g_Ai), (49, F_AS g_AS), (15, F_AQ g_AQ)]) ⟨[⟨3, u5GS1, []⟩, ⟨5, u5GS1, []⟩], [⟨3, 1, @R_AA_0 (@l_0)⟩, ⟨5, 1, @R_AA_1 (@l_1)⟩], [], [], (some ⟨0, u6GS1, []⟩)⟩ 200 21 [.r (.c (.ptr 0 (.k 0) 1)), rI x0, rI x1, rI x2, rI x3, rI x4, rI x5] [[.c (.f (.b x6))]] = K_AA g_Ai g_AS g_AQ (@l_0) (@l_1) x0 x1 x2 x3 x4 x5 x6 (fun (d : Int ×
 Int × Int × Bool) => some (Res.mk (AV.r (RV.agg [Sg.c (fI d.1), Sg.c (fI d.2.1), Sg.c (fI d.2.2.1)])) [Ch.set [sB d.2.2.2]] [])) := by kernel_rfl
theorem m_AA {ρ σ : Type} (q : ρ → Option σ) (g_Ai : t19GS1) (g_AS : t13GS1) (g_AQ : t13GS1) (l_0 : ∀ {ρ : Type}, (GS1t1) → ((GS1t2) → Option ρ) → Option ρ) (l_1 : ∀ {ρ : Type}, (GS1t1) → ((GS1t2) → Option ρ) → Option ρ) (hl_0 : ∀ {ρ σ : Type} (q : ρ → Option σ) (d : GS1t1) (k : (GS1t2) → Option ρ), (l_0 d k).bind q = l_0 d fun x => (k x).bind q) (hl_1 : ∀ {ρ σ : Type} (q : ρ → Option σ) (d : GS1t1) (k : (GS1t2) → Option ρ), (l_1 d k).bind q = l_1 d fun x => (k x).bind q) (x0 : Int) (x1 : Int) (x2 : Int) (x3 : Int) (x4 : Int) (x5 : Int) (x6 : Bool) (k : (Int × Int × Int × Bool) → Option ρ) : (K_AA g_Ai g_AS g_AQ (@l_0) (@l_1) x0 x1 x2 x3 x4 x5 x6 k).bind q = K_AA g_Ai g_AS g_AQ (@l_0) (@l_1) x0 x1 x2 x3 x4 x5 x6 (fun d => (k d).bind q) := by
  simp only [K_AA, bnd_cond, bnd_bind, bnd_none, bnd_sum, hl_0, hl_1]
theorem qa_AA : ∀ b, (QA_AA).em b = ([.r (.c (.ptr 0 (.k 0) 1)), rI b.1.2.1, rI b.1.2.2.1, rI b.1.2.2.2.1, rI b.1.c4.1, rI b.1.c4.2.1, rI b.1.c4.2.2.1], [[.c (.f (.b b.2.1.1))]]) := fun b => by kernel_rfl
theorem e_AA {f : (Int) → (Int) → (Int) → (Int) → (Int) → (Int) → (Bool) → Option (Int × Int × Int × Bool)} {args : List AV} {h : List Blk} {r : Res} (hr : (F_AA f args h).eval = some r) : ∃ x0 x1 x2 x3 x4 x5 x6, args = [.r (.c (.ptr 0 (.k 0) 1)), rI x0, rI x1, rI x2, rI x3, rI x4, rI x5] ∧ h = [[.c (.f (.b x6))]] ∧ (f x0 x1 x2 x3 x4 x5 x6).bind (fun (d : Int × Int × Int × Bool) => some (Res.mk (AV.r (RV.agg [Sg.c (fI d.1), Sg.c (fI d.2.1), Sg.c (fI d.2.2.1)])) [Ch.set [sB d.2.2.2]] [])) = some r := by
  unfold F_AA at hr
  split at hr
  · rename_i b hb
    have e := ((QA_AA).ok _ _ hb).trans (qa_AA b)
    rw [opt_eval2] at hr
    exact ⟨b.1.2.1, b.1.2.2.1, b.1.2.2.2.1, b.1.c4.1, b.1.c4.2.1, b.1.c4.2.2.1, b.2.1.1, (Prod.mk.inj e).1, (Prod.mk.inj e).2, hr⟩
  · cases hr
theorem n_AA {σ : Type} (q : (Int × Int × Int × Bool) → Option σ) (x0 : Int) (x1 : Int) (x2 : Int) (x3 : Int) (x4 : Int) (x5 : Int) (x6 : Bool) : (f_AA x0 x1 x2 x3 x4 x5 x6).bind q = K_AA f_Ai f_AS f_AQ (@L_AA_0) (@L_AA_1) x0 x1 x2 x3 x4 x5 x6 q := by
  unfold f_AA
  exact m_AA q f_Ai f_AS f_AQ (@L_AA_0) (@L_AA_1) (fun q d k => mL_AA_0 q d k) (fun q d k => mL_AA_1 q d k) x0 x1 x2 x3 x4 x5 x6 some
theorem s_AA [Amb] : Sound Try.prog 21 (F_AA f_AA) := (inl_sums (l := [(48, F_Ai f_Ai), (49, F_AS f_AS), (15, F_AQ f_AQ)]) (.cons s_Ai (.cons s_AS (.cons s_AQ (.nil _)))) mixed (hs := ⟨[⟨3, u5GS1, []⟩, ⟨5, u5GS1, []⟩], [⟨3, 1, @R_AA_0 (@L_AA_0)⟩,
 ⟨5, 1, @R_AA_1 (@L_AA_1)⟩], [], [], (some ⟨0, u6GS1, []⟩)⟩) (lf := 200) (Sums.by (l := [loopIn Try.prog 21 3,
 loopIn Try.prog 21 5]) (lj := []) (by kernel_rfl) ⟨so_AA_0, ⟨so_AA_1, trivial⟩⟩ (by kernel_rfl) trivial) (by kernel_rfl)).by (F := F_AA f_AA) fun args b r hr => by
  obtain ⟨x0, x1, x2, x3, x4, x5, x6, rfl, rfl, hr1⟩ := e_AA hr
  exact inl_eval ((d_AA f_Ai f_AS f_AQ (@L_AA_0) (@L_AA_1) x0 x1 x2 x3 x4 x5 x6).trans ((n_AA (fun (d : Int × Int × Int × Bool) => some (Res.mk (AV.r (RV.agg [Sg.c (fI d.1), Sg.c (fI d.2.1), Sg.c (fI d.2.2.1)])) [Ch.set [sB d.2.2.2]] [])) x0 x1 x2 x3 x4 x5 x6).symm.trans hr1))

def K_Ah {ρ : Type} (g_S : t9GS1) (x0 : Int) (x1 : Int) (x2 : Bool) (k : (Int × Bool) → Option ρ) : Option ρ := Option.bind (g_S x0 x2) fun (d : Int × Bool) => Option.bind (g_S x1 d.2) fun (d_1 : Int × Bool) => Option.bind (g_S (IntKind.wrap .i64 (d.1 - d_1.1)) d_1.2) fun (d : Int ×
 Bool) => k (d.1, d.2)
def f_Ah (x0 : Int) (x1 : Int) (x2 : Bool) : Option (Int × Bool) := K_Ah f_S x0 x1 x2 some
section
open Go.Ab.Rdr
def QA_Ah := ((pair (cons (ar (rc (cptr (nat 0) (ok' (nat 0)) (nat 1)))) (cons (ar (rc (cf (fi .i64 hole)))) (cons (ar (rc (cf (fi .i64 hole)))) nil))) (cons (cons (gc (cf (fb hole))) nil) nil)) : Rdr (List AV × List Blk) _)
end
def F_Ah (f : (Int) → (Int) → (Bool) → Option (Int × Bool)) : Sem1 := fun args h => match (QA_Ah).rd (args, h) with
  | some b => .opt (f b.1.2.1 b.1.2.2.1 b.2.1.1) fun (d : Int × Bool) => .leaf (Res.mk (AV.r (RV.c (fI d.1))) [Ch.set [sB d.2]] [])
  | none => .fail
theorem d_Ah (g_S : t9GS1) (x0 : Int) (x1 : Int) (x2 : Bool) : den Try.prog (envOf [(41, F_S g_S)]) ⟨[], [], [], [], none⟩ 200 47 [.r (.c (.ptr 0 (.k 0) 1)), rI x0, rI x1] [[.c (.f (.b x2))]] = K_Ah g_S x0 x1 x2 (fun (d : Int × Bool) => some (Res.mk (AV.r (RV.c (fI d.1))) [Ch.set [sB d.2]] [])) := by kernel_rfl
theorem m_Ah {ρ σ : Type} (q : ρ → Option σ) (g_S : t9GS1) (x0 : Int) (x1 : Int) (x2 : Bool) (k : (Int × Bool) → Option ρ) : (K_Ah g_S x0 x1 x2 k).bind q = K_Ah g_S x0 x1 x2 (fun d => (k d).bind q) := by
  simp only [K_Ah, bnd_cond, bnd_bind, bnd_none, bnd_sum]
theorem qa_Ah : ∀ b, (QA_Ah).em b = ([.r (.c (.ptr 0 (.k 0) 1)), rI b.1.2.1, rI b.1.2.2.1], [[.c (.f (.b b.2.1.1))]]) := fun b => by kernel_rfl
theorem e_Ah {f : (Int) → (Int) → (Bool) → Option (Int × Bool)} {args : List AV} {h : List Blk} {r : Res} (hr : (F_Ah f args h).eval = some r) : ∃ x0 x1 x2, args = [.r (.c (.ptr 0 (.k 0) 1)), rI x0, rI x1] ∧ h = [[.c (.f (.b x2))]] ∧ (f x0 x1 x2).bind (fun (d : Int × Bool) => some (Res.mk (AV.r (RV.c (fI d.1))) [Ch.set [sB d.2]] [])) = some r := by
  unfold F_Ah at hr
  split at hr
  · rename_i b hb
    have e := ((QA_Ah).ok _ _ hb).trans (qa_Ah b)
    rw [opt_eval2] at hr
    exact ⟨b.1.2.1, b.1.2.2.1, b.2.1.1, (Prod.mk.inj e).1, (Prod.mk.inj e).2, hr⟩
  · cases hr
theorem n_Ah {σ : Type} (q : (Int × Bool) → Option σ) (x0 : Int) (x1 : Int) (x2 : Bool) : (f_Ah x0 x1 x2).bind q = K_Ah f_S x0 x1 x2 q := by
  unfold f_Ah
  exact m_Ah q f_S x0 x1 x2 some
theorem s_Ah [Amb] : Sound Try.prog 47 (F_Ah f_Ah) := (inl_sound (l := [(41, F_S f_S)]) (.cons s_S (.nil _)) mixed [] [] 200 (by kernel_rfl)).by (F := F_Ah f_Ah) fun args b r hr => by
  obtain ⟨x0, x1, x2, rfl, rfl, hr1⟩ := e_Ah hr
  exact inl_eval ((d_Ah f_S x0 x1 x2).trans ((n_Ah (fun (d : Int × Bool) => some (Res.mk (AV.r (RV.c (fI d.1))) [Ch.set [sB d.2]] [])) x0 x1 x2).symm.trans hr1))

def K_Ag {ρ : Type} (x0 : Int) (k : NI → Option ρ) : Option ρ := bif inR x0 24 then bif true && Nat.ble (0 + Int.toNat x0 * 1 + 1) 24 then k fun (j : Nat) => bif Nat.beq j (Int.toNat x0) then 1073741824 else 0 else none else none
def f_Ag (x0 : Int) : Option NI := K_Ag x0 some
section
open Go.Ab.Rdr
def QA_Ag := ((pair (cons (ar (rc (cf (fi .i64 hole)))) nil) nil) : Rdr (List AV × List Blk) _)
end
def F_Ag (f : (Int) → Option NI) : Sem1 := fun args h => match (QA_Ag).rd (args, h) with
  | some b => .opt (f b.1.1) fun (d : NI) => .leaf (Res.mk (AV.r (RV.agg [Sg.a (Sz.l 24) [kI d]])) [] [])
  | none => .fail
theorem d_Ag (x0 : Int) : den Try.prog (envOf []) ⟨[], [], [], [], none⟩ 200 46 [rI x0] [] = K_Ag x0 (fun (d : NI) => some (Res.mk (AV.r (RV.agg [Sg.a (Sz.l 24) [kI d]])) [] [])) := by kernel_rfl
theorem m_Ag {ρ σ : Type} (q : ρ → Option σ) (x0 : Int) (k : NI → Option ρ) : (K_Ag x0 k).bind q = K_Ag x0 (fun d => (k d).bind q) := by
  simp only [K_Ag, bnd_cond, bnd_bind, bnd_none, bnd_sum]
theorem qa_Ag : ∀ b, (QA_Ag).em b = ([rI b.1.1], []) := fun b => by kernel_rfl
theorem e_Ag {f : (Int) → Option NI} {args : List AV} {h : List Blk} {r : Res} (hr : (F_Ag f args h).eval = some r) : ∃ x0, args = [rI x0] ∧ h = [] ∧ (f x0).bind (fun (d : NI) => some (Res.mk (AV.r (RV.agg [Sg.a (Sz.l 24) [kI d]])) [] [])) = some r := by
  unfold F_Ag at hr
  split at hr
  · rename_i b hb
    have e := ((QA_Ag).ok _ _ hb).trans (qa_Ag b)
    rw [opt_eval2] at hr
    exact ⟨b.1.1, (Prod.mk.inj e).1, (Prod.mk.inj e).2, hr⟩
  · cases hr
theorem n_Ag {σ : Type} (q : NI → Option σ) (x0 : Int) : (f_Ag x0).bind q = K_Ag x0 q := by
  unfold f_Ag
  exact m_Ag q x0 some
theorem s_Ag [Amb] : Sound Try.prog 46 (F_Ag f_Ag) := (inl_sound (l := []) (.nil _) mixed [] [] 200 (by kernel_rfl)).by (F := F_Ag f_Ag) fun args b r hr => by
  obtain ⟨x0, rfl, rfl, hr1⟩ := e_Ag hr
  exact inl_eval ((d_Ag x0).trans ((n_Ag (fun (d : NI) => some (Res.mk (AV.r (RV.agg [Sg.a (Sz.l 24) [kI d]])) [] [])) x0).symm.trans hr1))

def K_BZ {ρ : Type} (g_Ag : t20GS1) (g_Ah : t15GS1) (x0 : NI) (x1 : Int) (x2 : Int) (x3 : Int) (x4 : Int) (x5 : Int) (x6 : Bool) (k : (GS1t3) → Option ρ) : Option ρ := Option.bind (g_Ag 4) fun (d : NI) => Option.bind (g_Ah x1 (x0 4) x6) fun (d_1 : Int ×
 Bool) => Option.bind (g_Ag 5) fun (d_2 : NI) => Option.bind (g_Ah x2 (x0 5) d_1.2) fun (d_3 : Int × Bool) => Option.bind (g_Ag 6) fun (d_4 : NI) => Option.bind (g_Ah x3 (x0 6) d_3.2) fun (d_5 : Int × Bool) => k (d_5.2, d, d_1.1, x4, x5, d_2, d_3.1, d_4, d_5.1)
def f_BZ (x0 : NI) (x1 : Int) (x2 : Int) (x3 : Int) (x4 : Int) (x5 : Int) (x6 : Bool) : Option (GS1t3) := K_BZ f_Ag f_Ah x0 x1 x2 x3 x4 x5 x6 some
section
open Go.Ab.Rdr
def QA_BZ := ((pair (cons (ar (rc (cptr (nat 0) (ok' (nat 0)) (nat 1)))) (cons (ar (ra (cons (ga (szl (nat 24)) (cons (ki .i64 hole) nil)) nil))) (cons (ar (ra (cons (gc (cf (fi .i64 hole))) (cons (gc (cf (fi .i64 hole))) (cons (gc (cf (fi .i64 hole))) nil))))) (cons (ar (rc (cf (fi .i64 hole)))) (cons (ar (rc (cf (fi .i64 hole)))) nil))))) (cons (cons (gc (cf (fb hole))) nil) nil)) : Rdr (List AV × List Blk) _)
end
def F_BZ (f : NI → (Int) → (Int) → (Int) → (Int) → (Int) → (Bool) → Option (GS1t3)) : Sem1 := fun args h => match (QA_BZ).rd (args, h) with
  | some b => .opt (f b.1.2.1.1.2.1 b.1.2.2.1.1 b.1.2.2.1.2.1 b.1.2.2.1.2.2.1 b.1.2.2.2.1 b.1.c4.1 b.2.1.1) fun (d : GS1t3) => .leaf (Res.mk (AV.r (RV.c (CV.sl 1 (Off.k 0) (Sz.l 3) 27 true))) [Ch.set [sB d.1]]
    [[Sg.a (Sz.l 24) [kI d.2.1], Sg.c (fI d.2.2.1), Sg.c (fI d.2.2.2.1),
        Sg.c (fI d.c4.1), Sg.a (Sz.l 24) [kI d.c4.2.1], Sg.c (fI d.c4.2.2.1),
        Sg.c (fI d.2.2.2.1), Sg.c (fI d.c4.1), Sg.a (Sz.l 24) [kI d.c4.2.2.2.1],
        Sg.c (fI d.c8), Sg.c (fI d.2.2.2.1), Sg.c (fI d.c4.1)]])
  | none => .fail
theorem d_BZ (g_Ag : t20GS1) (g_Ah : t15GS1) (x0 : NI) (x1 : Int) (x2 : Int) (x3 : Int) (x4 : Int) (x5 : Int) (x6 : Bool) : den Try.prog (envOf [(46, F_Ag g_Ag), (47, F_Ah g_Ah)]) ⟨[⟨3, u7GS1, []⟩], [], [], [], (some ⟨0, u8GS1, []⟩)⟩ 200 19 [.r (.c (.ptr 0 (.k 0) 1)), .r (.agg [.a (.l 24) [.i .i64 x0]]), .r (.agg [.c (.f (.i .i64 x1)),
 .c (.f (.i .i64 x2)), .c (.f (.i .i64 x3))]), rI x4, rI x5] [[.c (.f (.b x6))]] = K_BZ g_Ag g_Ah x0 x1 x2 x3 x4 x5 x6 (fun (d : GS1t3) => some (Res.mk (AV.r (RV.c (CV.sl 1 (Off.k 0) (Sz.l 3) 27 true))) [Ch.set [sB d.1]] [[Sg.a (Sz.l 24) [kI d.2.1],
 Sg.c (fI d.2.2.1), Sg.c (fI d.2.2.2.1), Sg.c (fI d.c4.1), Sg.a (Sz.l 24) [kI d.c4.2.1], Sg.c (fI d.c4.2.2.1), Sg.c (fI d.2.2.2.1), Sg.c (fI d.c4.1), Sg.a (Sz.l 24) [kI d.c4.2.2.2.1], Sg.c (fI d.c8), Sg.c (fI d.2.2.2.1), Sg.c (fI d.c4.1)]])) := by kernel_rfl
theorem m_BZ {ρ σ : Type} (q : ρ → Option σ) (g_Ag : t20GS1) (g_Ah : t15GS1) (x0 : NI) (x1 : Int) (x2 : Int) (x3 : Int) (x4 : Int) (x5 : Int) (x6 : Bool) (k : (GS1t3) → Option ρ) : (K_BZ g_Ag g_Ah x0 x1 x2 x3 x4 x5 x6 k).bind q = K_BZ g_Ag g_Ah x0 x1 x2 x3 x4 x5 x6 (fun d => (k d).bind q) := by
  simp only [K_BZ, bnd_cond, bnd_bind, bnd_none, bnd_sum]
theorem qa_BZ : ∀ b, (QA_BZ).em b = ([.r (.c (.ptr 0 (.k 0) 1)), .r (.agg [.a (.l 24) [.i .i64 b.1.2.1.1.2.1]]), .r (.agg [.c (.f (.i .i64 b.1.2.2.1.1)), .c (.f (.i .i64 b.1.2.2.1.2.1)), .c (.f (.i .i64 b.1.2.2.1.2.2.1))]), rI b.1.2.2.2.1, rI b.1.c4.1], [[.c (.f (.b b.2.1.1))]]) := fun b => by kernel_rfl
theorem e_BZ {f : NI → (Int) → (Int) → (Int) → (Int) → (Int) → (Bool) → Option (GS1t3)} {args : List AV} {h : List Blk} {r : Res} (hr : (F_BZ f args h).eval = some r) : ∃ x0 x1 x2 x3 x4 x5 x6, args = [.r (.c (.ptr 0 (.k 0) 1)), .r (.agg [.a (.l 24) [.i .i64 x0]]), .r (.agg [.c (.f (.i .i64 x1)), .c (.f (.i .i64 x2)),
 .c (.f (.i .i64 x3))]), rI x4, rI x5] ∧ h = [[.c (.f (.b x6))]] ∧ (f x0 x1 x2 x3 x4 x5 x6).bind (fun (d : GS1t3) => some (Res.mk (AV.r (RV.c (CV.sl 1 (Off.k 0) (Sz.l 3) 27 true))) [Ch.set [sB d.1]] [[Sg.a (Sz.l 24) [kI d.2.1], Sg.c (fI d.2.2.1),
 Sg.c (fI d.2.2.2.1), Sg.c (fI d.c4.1), Sg.a (Sz.l 24) [kI d.c4.2.1], Sg.c (fI d.c4.2.2.1), Sg.c (fI d.2.2.2.1), Sg.c (fI d.c4.1), Sg.a (Sz.l 24) [kI d.c4.2.2.2.1], Sg.c (fI d.c8), Sg.c (fI d.2.2.2.1), Sg.c (fI d.c4.1)]])) = some r := by
  unfold F_BZ at hr
  split at hr
  · rename_i b hb
    have e := ((QA_BZ).ok _ _ hb).trans (qa_BZ b)
    rw [opt_eval2] at hr
    exact ⟨b.1.2.1.1.2.1, b.1.2.2.1.1, b.1.2.2.1.2.1, b.1.2.2.1.2.2.1, b.1.2.2.2.1, b.1.c4.1, b.2.1.1, (Prod.mk.inj e).1, (Prod.mk.inj e).2, hr⟩
  · cases hr
theorem n_BZ {σ : Type} (q : (GS1t3) → Option σ) (x0 : NI) (x1 : Int) (x2 : Int) (x3 : Int) (x4 : Int) (x5 : Int) (x6 : Bool) : (f_BZ x0 x1 x2 x3 x4 x5 x6).bind q = K_BZ f_Ag f_Ah x0 x1 x2 x3 x4 x5 x6 q := by
  unfold f_BZ
  exact m_BZ q f_Ag f_Ah x0 x1 x2 x3 x4 x5 x6 some
theorem s_BZ [Amb] : Sound Try.prog 19 (F_BZ f_BZ) := (inl_sums (l := [(46, F_Ag f_Ag), (47, F_Ah f_Ah)]) (.cons s_Ag (.cons s_Ah (.nil _))) mixed (hs := ⟨[⟨3, u7GS1, []⟩], [], [], [], (some ⟨0,
 u8GS1, []⟩)⟩) (lf := 200) (Sums.by (l := [loopIn Try.prog 19 3]) (lj := []) (by kernel_rfl) ⟨SumOK.no (by kernel_rfl), trivial⟩ (by kernel_rfl) trivial) (by kernel_rfl)).by (F := F_BZ f_BZ) fun args b r hr => by
  obtain ⟨x0, x1, x2, x3, x4, x5, x6, rfl, rfl, hr1⟩ := e_BZ hr
  exact inl_eval ((d_BZ f_Ag f_Ah x0 x1 x2 x3 x4 x5 x6).trans ((n_BZ (fun (d : GS1t3) => some (Res.mk (AV.r (RV.c (CV.sl 1 (Off.k 0) (Sz.l 3) 27 true))) [Ch.set [sB d.1]]
    [[Sg.a (Sz.l 24) [kI d.2.1], Sg.c (fI d.2.2.1), Sg.c (fI d.2.2.2.1),
        Sg.c (fI d.c4.1), Sg.a (Sz.l 24) [kI d.c4.2.1], Sg.c (fI d.c4.2.2.1),
        Sg.c (fI d.2.2.2.1), Sg.c (fI d.c4.1), Sg.a (Sz.l 24) [kI d.c4.2.2.2.1],
        Sg.c (fI d.c8), Sg.c (fI d.2.2.2.1), Sg.c (fI d.c4.1)]])) x0 x1 x2 x3 x4 x5 x6).symm.trans hr1))

def K_BP {ρ : Type} (g_Ag : t20GS1) (g_Ah : t15GS1) (x0 : NI) (x1 : Int) (x2 : Int) (x3 : Int) (x4 : Int) (x5 : Int) (x6 : Bool) (k : (Bool × NI × Int × Int × Int × NI × Int) → Option ρ) : Option ρ := Option.bind (g_Ag 7) fun (d : NI) => Option.bind (g_Ah x1 (x0 7) x6) fun (d_1 : Int ×
 Bool) => Option.bind (g_Ag 8) fun (d_2 : NI) => Option.bind (g_Ah x2 (x0 8) d_1.2) fun (d_3 : Int × Bool) => k (d_3.2, d, d_1.1, x4, x5, d_2, d_3.1)
def f_BP (x0 : NI) (x1 : Int) (x2 : Int) (x3 : Int) (x4 : Int) (x5 : Int) (x6 : Bool) : Option (Bool × NI × Int × Int × Int × NI × Int) := K_BP f_Ag f_Ah x0 x1 x2 x3 x4 x5 x6 some
section
open Go.Ab.Rdr
def QA_BP := ((pair (cons (ar (rc (cptr (nat 0) (ok' (nat 0)) (nat 1)))) (cons (ar (ra (cons (ga (szl (nat 24)) (cons (ki .i64 hole) nil)) nil))) (cons (ar (ra (cons (gc (cf (fi .i64 hole))) (cons (gc (cf (fi .i64 hole))) (cons (gc (cf (fi .i64 hole))) nil))))) (cons (ar (rc (cf (fi .i64 hole)))) (cons (ar (rc (cf (fi .i64 hole)))) nil))))) (cons (cons (gc (cf (fb hole))) nil) nil)) : Rdr (List AV × List Blk) _)
end
def F_BP (f : NI → (Int) → (Int) → (Int) → (Int) → (Int) → (Bool) → Option (Bool × NI × Int × Int × Int × NI × Int)) : Sem1 := fun args h => match (QA_BP).rd (args, h) with
  | some b => .opt (f b.1.2.1.1.2.1 b.1.2.2.1.1 b.1.2.2.1.2.1 b.1.2.2.1.2.2.1 b.1.2.2.2.1 b.1.c4.1 b.2.1.1) fun (d : Bool × NI × Int × Int × Int × NI × Int) => .leaf (Res.mk (AV.r (RV.c (CV.sl 1 (Off.k 0) (Sz.l 2) 27 true))) [Ch.set [sB d.1]]
    [[Sg.a (Sz.l 24) [kI d.2.1], Sg.c (fI d.2.2.1), Sg.c (fI d.2.2.2.1),
        Sg.c (fI d.c4.1), Sg.a (Sz.l 24) [kI d.c4.2.1], Sg.c (fI d.c4.2.2),
        Sg.c (fI d.2.2.2.1), Sg.c (fI d.c4.1)]])
  | none => .fail
theorem d_BP (g_Ag : t20GS1) (g_Ah : t15GS1) (x0 : NI) (x1 : Int) (x2 : Int) (x3 : Int) (x4 : Int) (x5 : Int) (x6 : Bool) : den Try.prog (envOf [(46, F_Ag g_Ag), (47, F_Ah g_Ah)]) ⟨[⟨3, u7GS1, []⟩], [], [], [], (some ⟨0, u8GS1, []⟩)⟩ 200 22 [.r (.c (.ptr 0 (.k 0) 1)), .r (.agg [.a (.l 24) [.i .i64 x0]]), .r (.agg [.c (.f (.i .i64 x1)),
 .c (.f (.i .i64 x2)), .c (.f (.i .i64 x3))]), rI x4, rI x5] [[.c (.f (.b x6))]] = K_BP g_Ag g_Ah x0 x1 x2 x3 x4 x5 x6 (fun (d : Bool × NI × Int × Int × Int × NI × Int) => some (Res.mk (AV.r (RV.c (CV.sl 1 (Off.k 0) (Sz.l 2) 27 true))) [Ch.set [sB d.1]] [[Sg.a (Sz.l 24) [kI d.2.1],
 Sg.c (fI d.2.2.1), Sg.c (fI d.2.2.2.1), Sg.c (fI d.c4.1), Sg.a (Sz.l 24) [kI d.c4.2.1], Sg.c (fI d.c4.2.2), Sg.c (fI d.2.2.2.1), Sg.c (fI d.c4.1)]])) := by kernel_rfl
theorem m_BP {ρ σ : Type} (q : ρ → Option σ) (g_Ag : t20GS1) (g_Ah : t15GS1) (x0 : NI) (x1 : Int) (x2 : Int) (x3 : Int) (x4 : Int) (x5 : Int) (x6 : Bool) (k : (Bool × NI × Int × Int × Int × NI × Int) → Option ρ) : (K_BP g_Ag g_Ah x0 x1 x2 x3 x4 x5 x6 k).bind q = K_BP g_Ag g_Ah x0 x1 x2 x3 x4 x5 x6 (fun d => (k d).bind q) := by
  simp only [K_BP, bnd_cond, bnd_bind, bnd_none, bnd_sum]
theorem qa_BP : ∀ b, (QA_BP).em b = ([.r (.c (.ptr 0 (.k 0) 1)), .r (.agg [.a (.l 24) [.i .i64 b.1.2.1.1.2.1]]), .r (.agg [.c (.f (.i .i64 b.1.2.2.1.1)), .c (.f (.i .i64 b.1.2.2.1.2.1)), .c (.f (.i .i64 b.1.2.2.1.2.2.1))]), rI b.1.2.2.2.1, rI b.1.c4.1], [[.c (.f (.b b.2.1.1))]]) := fun b => by kernel_rfl
theorem e_BP {f : NI → (Int) → (Int) → (Int) → (Int) → (Int) → (Bool) → Option (Bool × NI × Int × Int × Int × NI × Int)} {args : List AV} {h : List Blk} {r : Res} (hr : (F_BP f args h).eval = some r) : ∃ x0 x1 x2 x3 x4 x5 x6, args = [.r (.c (.ptr 0 (.k 0) 1)), .r (.agg [.a (.l 24) [.i .i64 x0]]), .r (.agg [.c (.f (.i .i64 x1)),
 .c (.f (.i .i64 x2)), .c (.f (.i .i64 x3))]), rI x4, rI x5] ∧ h = [[.c (.f (.b x6))]] ∧ (f x0 x1 x2 x3 x4 x5 x6).bind (fun (d : Bool × NI × Int × Int × Int × NI × Int) => some (Res.mk (AV.r (RV.c (CV.sl 1 (Off.k 0) (Sz.l 2) 27 true))) [Ch.set [sB d.1]] [[Sg.a (Sz.l 24) [kI d.2.1],
 Sg.c (fI d.2.2.1), Sg.c (fI d.2.2.2.1), Sg.c (fI d.c4.1), Sg.a (Sz.l 24) [kI d.c4.2.1], Sg.c (fI d.c4.2.2), Sg.c (fI d.2.2.2.1), Sg.c (fI d.c4.1)]])) = some r := by
  unfold F_BP at hr
  split at hr
  · rename_i b hb
    have e := ((QA_BP).ok _ _ hb).trans (qa_BP b)
    rw [opt_eval2] at hr
    exact ⟨b.1.2.1.1.2.1, b.1.2.2.1.1, b.1.2.2.1.2.1, b.1.2.2.1.2.2.1, b.1.2.2.2.1, b.1.c4.1, b.2.1.1, (Prod.mk.inj e).1, (Prod.mk.inj e).2, hr⟩
  · cases hr
theorem n_BP {σ : Type} (q : (Bool × NI × Int × Int × Int × NI × Int) → Option σ) (x0 : NI) (x1 : Int) (x2 : Int) (x3 : Int) (x4 : Int) (x5 : Int) (x6 : Bool) : (f_BP x0 x1 x2 x3 x4 x5 x6).bind q = K_BP f_Ag f_Ah x0 x1 x2 x3 x4 x5 x6 q := by
  unfold f_BP
  exact m_BP q f_Ag f_Ah x0 x1 x2 x3 x4 x5 x6 some
theorem s_BP [Amb] : Sound Try.prog 22 (F_BP f_BP) := (inl_sums (l := [(46, F_Ag f_Ag), (47, F_Ah f_Ah)]) (.cons s_Ag (.cons s_Ah (.nil _))) mixed (hs := ⟨[⟨3, u7GS1, []⟩], [], [], [], (some ⟨0,
 u8GS1, []⟩)⟩) (lf := 200) (Sums.by (l := [loopIn Try.prog 22 3]) (lj := []) (by kernel_rfl) ⟨SumOK.no (by kernel_rfl), trivial⟩ (by kernel_rfl) trivial) (by kernel_rfl)).by (F := F_BP f_BP) fun args b r hr => by
  obtain ⟨x0, x1, x2, x3, x4, x5, x6, rfl, rfl, hr1⟩ := e_BP hr
  exact inl_eval ((d_BP f_Ag f_Ah x0 x1 x2 x3 x4 x5 x6).trans ((n_BP (fun (d : Bool × NI × Int × Int × Int × NI × Int) => some (Res.mk (AV.r (RV.c (CV.sl 1 (Off.k 0) (Sz.l 2) 27 true))) [Ch.set [sB d.1]]
    [[Sg.a (Sz.l 24) [kI d.2.1], Sg.c (fI d.2.2.1), Sg.c (fI d.2.2.2.1),
        Sg.c (fI d.c4.1), Sg.a (Sz.l 24) [kI d.c4.2.1], Sg.c (fI d.c4.2.2),
        Sg.c (fI d.2.2.2.1), Sg.c (fI d.c4.1)]])) x0 x1 x2 x3 x4 x5 x6).symm.trans hr1))

def K_Ba {ρ : Type} (g_Ag : t20GS1) (g_Ah : t15GS1) (g_AB : t13GS1) (x0 : NI) (x1 : Int) (x2 : Int) (x3 : Int) (x4 : Int) (x5 : Int) (x6 : Bool) (k : (NI × Int × Int × Int × Bool) → Option ρ) : Option ρ := Option.bind (g_Ag 9) fun (d : Nat →
 Int) => Option.bind (g_Ah x3 (x0 9) x6) fun (d_1 : Int × Bool) => Option.bind (g_AB x4 (-72057594037927936) 72057594037927936 false) fun (d_2 : Int × Bool) => Option.bind (g_AB (IntKind.wrap .i64 (4 * d_2.1)) 1 72057594037927936 d_2.2) fun (d_3 : Int × Bool) => k (d, d_1.1, d_3.1, x5, d_1.2)
def f_Ba (x0 : NI) (x1 : Int) (x2 : Int) (x3 : Int) (x4 : Int) (x5 : Int) (x6 : Bool) : Option (NI × Int × Int × Int × Bool) := K_Ba f_Ag f_Ah f_AB x0 x1 x2 x3 x4 x5 x6 some
section
open Go.Ab.Rdr
def QA_Ba := ((pair (cons (ar (rc (cptr (nat 0) (ok' (nat 0)) (nat 1)))) (cons (ar (ra (cons (ga (szl (nat 24)) (cons (ki .i64 hole) nil)) nil))) (cons (ar (ra (cons (gc (cf (fi .i64 hole))) (cons (gc (cf (fi .i64 hole))) (cons (gc (cf (fi .i64 hole))) nil))))) (cons (ar (rc (cf (fi .i64 hole)))) (cons (ar (rc (cf (fi .i64 hole)))) nil))))) (cons (cons (gc (cf (fb hole))) nil) nil)) : Rdr (List AV × List Blk) _)
end
def F_Ba (f : NI → (Int) → (Int) → (Int) → (Int) → (Int) → (Bool) → Option (NI × Int × Int × Int × Bool)) : Sem1 := fun args h => match (QA_Ba).rd (args, h) with
  | some b => .opt (f b.1.2.1.1.2.1 b.1.2.2.1.1 b.1.2.2.1.2.1 b.1.2.2.1.2.2.1 b.1.2.2.2.1 b.1.c4.1 b.2.1.1) fun (d : NI × Int × Int × Int × Bool) => .leaf (Res.mk
    (AV.r (RV.agg [Sg.a (Sz.l 24) [kI d.1], Sg.c (fI d.2.1), Sg.c (fI d.2.2.1), Sg.c (fI d.2.2.2.1)]))
    [Ch.set [sB d.c4]] [])
  | none => .fail
theorem d_Ba (g_Ag : t20GS1) (g_Ah : t15GS1) (g_AB : t13GS1) (x0 : NI) (x1 : Int) (x2 : Int) (x3 : Int) (x4 : Int) (x5 : Int) (x6 : Bool) : den Try.prog (envOf [(46, F_Ag g_Ag), (47, F_Ah g_Ah), (45, F_AB g_AB)]) ⟨[],
 [], [], [], none⟩ 200 23 [.r (.c (.ptr 0 (.k 0) 1)), .r (.agg [.a (.l 24) [.i .i64 x0]]), .r (.agg [.c (.f (.i .i64 x1)), .c (.f (.i .i64 x2)), .c (.f (.i .i64 x3))]), rI x4, rI x5] [[.c (.f (.b x6))]] = K_Ba g_Ag g_Ah g_AB x0 x1 x2 x3 x4 x5 x6 (fun (d : NI × Int ×
 Int × Int × Bool) => some (Res.mk (AV.r (RV.agg [Sg.a (Sz.l 24) [kI d.1], Sg.c (fI d.2.1), Sg.c (fI d.2.2.1), Sg.c (fI d.2.2.2.1)])) [Ch.set [sB d.c4]] [])) := by kernel_rfl
theorem m_Ba {ρ σ : Type} (q : ρ → Option σ) (g_Ag : t20GS1) (g_Ah : t15GS1) (g_AB : t13GS1) (x0 : NI) (x1 : Int) (x2 : Int) (x3 : Int) (x4 : Int) (x5 : Int) (x6 : Bool) (k : (NI × Int × Int × Int × Bool) → Option ρ) : (K_Ba g_Ag g_Ah g_AB x0 x1 x2 x3 x4 x5 x6 k).bind q = K_Ba g_Ag g_Ah g_AB x0 x1 x2 x3 x4 x5 x6 (fun d => (k d).bind q) := by
  simp only [K_Ba, bnd_cond, bnd_bind, bnd_none, bnd_sum]
theorem qa_Ba : ∀ b, (QA_Ba).em b = ([.r (.c (.ptr 0 (.k 0) 1)), .r (.agg [.a (.l 24) [.i .i64 b.1.2.1.1.2.1]]), .r (.agg [.c (.f (.i .i64 b.1.2.2.1.1)), .c (.f (.i .i64 b.1.2.2.1.2.1)), .c (.f (.i .i64 b.1.2.2.1.2.2.1))]), rI b.1.2.2.2.1, rI b.1.c4.1], [[.c (.f (.b b.2.1.1))]]) := fun b => by kernel_rfl
theorem e_Ba {f : NI → (Int) → (Int) → (Int) → (Int) → (Int) → (Bool) → Option (NI × Int × Int × Int × Bool)} {args : List AV} {h : List Blk} {r : Res} (hr : (F_Ba f args h).eval = some r) : ∃ x0 x1 x2 x3 x4 x5 x6, args = [.r (.c (.ptr 0 (.k 0) 1)), .r (.agg [.a (.l 24) [.i .i64 x0]]), .r (.agg [.c (.f (.i .i64 x1)),
 .c (.f (.i .i64 x2)), .c (.f (.i .i64 x3))]), rI x4, rI x5] ∧ h = [[.c (.f (.b x6))]] ∧ (f x0 x1 x2 x3 x4 x5 x6).bind (fun (d : NI × Int × Int × Int × Bool) => some (Res.mk (AV.r (RV.agg [Sg.a (Sz.l 24) [kI d.1], Sg.c (fI d.2.1), Sg.c (fI d.2.2.1), Sg.c (fI d.2.2.2.1)])) [Ch.set [sB d.c4]] [])) = some r := by
  unfold F_Ba at hr
  split at hr
  · rename_i b hb
    have e := ((QA_Ba).ok _ _ hb).trans (qa_Ba b)
    rw [opt_eval2] at hr
    exact ⟨b.1.2.1.1.2.1, b.1.2.2.1.1, b.1.2.2.1.2.1, b.1.2.2.1.2.2.1, b.1.2.2.2.1, b.1.c4.1, b.2.1.1, (Prod.mk.inj e).1, (Prod.mk.inj e).2, hr⟩
  · cases hr
theorem n_Ba {σ : Type} (q : (NI × Int × Int × Int × Bool) → Option σ) (x0 : NI) (x1 : Int) (x2 : Int) (x3 : Int) (x4 : Int) (x5 : Int) (x6 : Bool) : (f_Ba x0 x1 x2 x3 x4 x5 x6).bind q = K_Ba f_Ag f_Ah f_AB x0 x1 x2 x3 x4 x5 x6 q := by
  unfold f_Ba
  exact m_Ba q f_Ag f_Ah f_AB x0 x1 x2 x3 x4 x5 x6 some
theorem s_Ba [Amb] : Sound Try.prog 23 (F_Ba f_Ba) := (inl_sound (l := [(46, F_Ag f_Ag), (47, F_Ah f_Ah), (45, F_AB f_AB)]) (.cons s_Ag (.cons s_Ah (.cons s_AB (.nil _)))) mixed [] [] 200 (by kernel_rfl)).by (F := F_Ba f_Ba) fun args b r hr => by
  obtain ⟨x0, x1, x2, x3, x4, x5, x6, rfl, rfl, hr1⟩ := e_Ba hr
  exact inl_eval ((d_Ba f_Ag f_Ah f_AB x0 x1 x2 x3 x4 x5 x6).trans ((n_Ba (fun (d : NI × Int × Int × Int × Bool) => some (Res.mk
    (AV.r (RV.agg [Sg.a (Sz.l 24) [kI d.1], Sg.c (fI d.2.1), Sg.c (fI d.2.2.1), Sg.c (fI d.2.2.2.1)]))
    [Ch.set [sB d.c4]] [])) x0 x1 x2 x3 x4 x5 x6).symm.trans hr1))

end Go.Proofs.Ytdpenjncfmkbgaa
